/-
  THE POSITIONS OF A STEP, IN THE REFERENCE: ref14.Behind, ref.Stations.
-/
import Derived.Test.YtoiblgbaeglgoaaXS10
import Derived.Test.YtoiblgbaeglgoaaXP3
namespace Go.Proofs.Ytoiblgbaeglgoaa
open Go Go.Am
def b23_0 : IC := .seq (.seq (.region [⟨(some 10), .mov (.t 6), none⟩,
  ⟨(some 11), .mov (.t 1), none⟩,
  ⟨(some 12), .bin .lss (.t 10) (.t 11), none⟩] none)
 (.cond (.t 12) (.skip)
 (.exit 0)))
 (.seq (.block 1 (.region [⟨(some 15), .faddr 1 (.t 2), none⟩,
  ⟨(some 16), .load none (.t 15), none⟩,
  ⟨(some 17), .mov (.t 6), none⟩,
  ⟨(some 18), .idxs 2 (.t 16) (.t 17), none⟩,
  ⟨(some 19), .load (some 2) (.t 18), none⟩,
  ⟨(some 20), .mov (.t 5), none⟩,
  ⟨(some 21), .call (.c (.fn 88 [] [])) [(.t 19), (.t 20)], none⟩,
  ⟨(some 5), .mov (.t 21), none⟩] none))
 (.region [⟨(some 13), .mov (.t 6), none⟩,
  ⟨(some 14), .bin .add (.t 13) (.c (.int .i64 1)), none⟩,
  ⟨(some 6), .mov (.t 14), none⟩] none))
-- pneumatic/pneumaticref14.Behind
def ic23 : IC := .seq (.region [⟨(some 2), .box (.t 0), none⟩,
  ⟨(some 4), .mov (.c (.nils)), none⟩] none)
 (.seq (.region [⟨(some 7), .faddr 0 (.t 2), none⟩,
  ⟨(some 8), .load none (.t 7), none⟩,
  ⟨(some 9), .mkslice 1 1 [.bool false] (.t 8) (.t 8), none⟩,
  ⟨(some 5), .mov (.t 9), none⟩] none)
 (.seq (.seq (.region [⟨(some 6), .mov (.c (.int .i64 0)), none⟩] none)
 (.block 0 (.loop b23_0)))
 (.seq (.region [⟨(some 22), .mov (.t 5), none⟩,
  ⟨(some 4), .mov (.t 22), none⟩] none)
 (.ret))))
theorem fn23 : env0.fn 23 = some ⟨23, ic23, [.t 4]⟩ := by kernel_rfl
section
variable {w0 : World} {N0 : Nat} {k : List Fr} {Q : Exit → AS → Prop}
theorem SeqOk.behLen {n : Nat} {l : List Sp} (k : Nat) : (zg7 (List.replicate n false) (l.take k)).length = n := by
 rw [zh2, List.length_replicate]
theorem StpOk.len {n : Int} {E : List Bool} {p : Sp} (h : StpOk n E p) : p.l.length ≤ 6 := (zm2 h.sp).1
set_option maxHeartbeats 2000000 in
theorem zqv {n : Nat} {l : List Sp} (ok : SeqOk n l) (k : Nat) (hk : k ≤ l.length) : PF Try.prog 23 [.agg (cQ n l), .int .i64 (k : Nat)] (vsB (zg7 (List.replicate n false) (l.take k))) := by
 have n1 := ok.n1
 have n6 := ok.n6
 have l64 := ok.l64
 have hcl : (cPs l).length = l.length := zdb l
 refine zbc env0_ok fn23 [(0, .agg [.int .i64 (n : Nat), .vs (cPs l)]), (1, .int .i64 (k : Nat))] (by show 2 ≤ 23; decide) rfl fun w0 N0 => ?_
 unfold ic23
 repeat (first | refine za6 ?_ | refine za0 rfl ?_ | refine za3 ?_ | refine za2 ?_ | refine za4 rfl ?_ | refine za8 rfl rfl ?_ | refine zac rfl ?_ | refine zby rfl rfl ?_)
 refine o_mks rfl rfl (by omega) ?_
 rw [Int.toNat_natCast, zot]
 repeat (first | refine za6 ?_ | refine za0 rfl ?_ | refine za3 ?_ | refine za2 ?_ | refine zad ?_ | refine za4 rfl ?_)
 refine zbq (fun mm S => ∃ i, mm = k - i ∧ i ≤ k ∧
   S = st 23 [(1, .int .i64 (k : Nat)), (2, .vptr [.int .i64 (n : Nat), .vs (cPs l)]), (5, vsB (zg7 (List.replicate n false) (l.take i))), (6, .int .i64 (i : Nat))] [] 0 1) k
  (zbk [] [(0, 0, [.int .i64 (n : Nat), .vs (cPs l)]), (1, 1, (List.replicate n false).map AV.bool)] rfl rfl rfl (.cons rfl rfl (.cons rfl (zbm _) .nil)) .nil (l' := [(1, .int .i64 (k : Nat)), (2, .vptr [.int .i64 (n : Nat), .vs (cPs l)]), (5, vsB (List.replicate n false)), (6, .int .i64 ((0 : Nat) : Int))]) (.cons rfl (.same rfl) (.cons rfl (.fptr rfl rfl) (.cons rfl (.fms0 rfl (by rw [List.length_map, List.length_replicate]) (fun y hy => by obtain ⟨z, _, rfl⟩ := List.mem_map.1 hy; rfl) (zgn _)) (.cons rfl (.same rfl) .nil))))) ⟨0, rfl, Nat.zero_le _, rfl⟩ ?_
 rintro mm S ⟨i, rfl, hi, rfl⟩
 unfold b23_0
 repeat (first | refine za6 ?_ | refine za0 rfl ?_ | refine za4 rfl ?_)
 refine zar rfl rfl rfl (fun h4 => ?_) fun h4 => ?_
 ·have hlt : i < k := by
   have : ((i : Nat) : Int) < (k : Nat) := of_decide_eq_true h4
   omega
  have hll : i < l.length := by omega
  have hst := ok.step hll
  have hEl := SeqOk.behLen (n := n) (l := l) i
  have htk := zjs (E := List.replicate n false) hll
  have p1 := ztl l[i] (zg7 (List.replicate n false) (l.take i)) (by have := hst.len; omega) (by omega) (by omega) (hst.acts (by rw [hEl]))
  rw [← htk] at p1
  have hg := zh4 hll
  generalize zg7 (List.replicate n false) (l.take i) = E at *
  generalize hF : zg7 (List.replicate n false) (l.take (i + 1)) = F at *
  generalize l[i] = p at hg p1
  obtain ⟨q, w⟩ := p
  have hg : (cPs l)[((i : Nat) : Int).toNat]? = some [.vs (cSs q), .int .i64 w] := hg
  have p1 : PF Try.prog 88 [.agg [.vs (cSs q), .int .i64 w], vsB E] (vsB F) := p1
  repeat (first | refine za6 ?_ | refine za0 rfl ?_ | refine za3 ?_ | refine za2 ?_ | refine zad ?_ | refine zab ?_ | refine zb0 rfl ?_ | refine za4 rfl ?_ | refine za8 rfl rfl ?_ | refine zas rfl rfl rfl rfl ?_ | refine zah rfl rfl rfl ?_ | refine zb1 rfl rfl (by omega) (by assumption) rfl ?_)
  refine zau rfl rfl p1 (fun h => Bool.noConfusion (show false = true from h)) ?_
  repeat (first | refine za0 rfl ?_ | refine za3 ?_ | refine za2 ?_ | refine zb6 ?_ | refine za4 rfl ?_ | refine zay (op := .add) rfl rfl rfl ?_)
  rw [zaq i (by omega)]
  exact zat (show k - (i + 1) < k - i by omega) (zao (.cons rfl (.cons rfl (.cons rfl (.cons rfl .nil))))) ⟨i + 1, rfl, hlt, by rw [hF]⟩
 ·have hi2 : i = k := by
   have : ¬ ((i : Nat) : Int) < (k : Nat) := of_decide_eq_false h4
   omega
  subst hi2
  repeat (first | refine za3 ?_ | refine za2 ?_ | refine zb8 rfl ?_ | refine zbb ?_ | refine zaj ?_)
  refine zcl ?_
  repeat (first | refine za6 ?_ | refine za0 rfl ?_ | refine za3 ?_ | refine za2 ?_ | refine zam ?_ | refine zba ?_ | refine za4 rfl ?_)
  exact zak ⟨.inr rfl, _, rfl, rfl⟩
end
end Go.Proofs.Ytoiblgbaeglgoaa
