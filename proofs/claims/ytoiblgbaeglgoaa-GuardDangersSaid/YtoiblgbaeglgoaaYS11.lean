/-
  THE POSITIONS OF A STEP, IN THE REFERENCE: ref14.Behind, ref.Stations.
-/
import Derived.Test.YtoiblgbaeglgoaaYS10
import Derived.Test.YtoiblgbaeglgoaaYP3
namespace Go.Proofs.Ytoiblgbaeglgoaa
open Go Go.Am
theorem zt5 {f : FuncId} {args bs : List AV} {v u : AV} {l : List (FuncId × List AV × AV)} (hn : bs ≠ args) (h : ze3 l f args = some v) : ze3 ((f, bs, u) :: l) f args = some v := by simp [ze3, hn, h]
def b23_0 : IC := .seq (.seq (.region [⟨(some 10), .mov (.t 6), none⟩,
  ⟨(some 11), .mov (.t 1), none⟩,
  ⟨(some 12), .bin .lss (.t 10) (.t 11), none⟩] none)
 (.cond (.t 12) (.skip)
 (.exit 0)))
 (.seq (.block 1 (.region [⟨(some 15), .faddr 1 (.t 2), none⟩,
  ⟨(some 16), .load none (.t 15), none⟩,
  ⟨(some 17), .mov (.t 6), none⟩,
  ⟨(some 18), .idxs 2 (.t 16) (.t 17), none⟩,
  ⟨(some 19), .load (some 2) (.t 18), none⟩,
  ⟨(some 20), .mov (.t 5), none⟩,
  ⟨(some 21), .call (.c (.fn 88 [] [])) [(.t 19), (.t 20)], none⟩,
  ⟨(some 5), .mov (.t 21), none⟩] none))
 (.region [⟨(some 13), .mov (.t 6), none⟩,
  ⟨(some 14), .bin .add (.t 13) (.c (.int .i64 1)), none⟩,
  ⟨(some 6), .mov (.t 14), none⟩] none))
-- pneumatic/pneumaticref14.Behind
def ic23 : IC := .seq (.region [⟨(some 2), .box (.t 0), none⟩,
  ⟨(some 4), .mov (.c (.nils)), none⟩] none)
 (.seq (.region [⟨(some 7), .faddr 0 (.t 2), none⟩,
  ⟨(some 8), .load none (.t 7), none⟩,
  ⟨(some 9), .mkslice 1 1 [.bool false] (.t 8) (.t 8), none⟩,
  ⟨(some 5), .mov (.t 9), none⟩] none)
 (.seq (.seq (.region [⟨(some 6), .mov (.c (.int .i64 0)), none⟩] none)
 (.block 0 (.loop b23_0)))
 (.seq (.region [⟨(some 22), .mov (.t 5), none⟩,
  ⟨(some 4), .mov (.t 22), none⟩] none)
 (.ret))))
theorem fn23 : env0.fn 23 = some ⟨23, ic23, [.t 4]⟩ := by kernel_rfl
section
variable {w0 : World} {N0 : Nat} {k : List Fr} {Q : Exit → AS → Prop}
theorem SeqOk.behLen {n : Nat} {l : List Sp} (k : Nat) : (zgw (List.replicate n false) (l.take k)).length = n := by
 rw [zhc, List.length_replicate]
theorem StpOk.len {n : Int} {E : List Bool} {p : Sp} (h : StpOk n E p) : p.l.length ≤ 6 := (zm8 h.sp).1
set_option maxHeartbeats 2000000 in
theorem zr6 {n : Nat} {l : List Sp} (ok : SeqOk n l) (k : Nat) (hk : k ≤ l.length) : PF Try.prog 23 [.agg (cQ n l), .int .i64 (k : Nat)] (vsB (zgw (List.replicate n false) (l.take k))) := by
 have n1 := ok.n1
 have n6 := ok.n6
 have l64 := ok.l64
 have hcl : (cPs l).length = l.length := zd0 l
 refine zbb env0_ok fn23 [(0, .agg [.int .i64 (n : Nat), .vs (cPs l)]), (1, .int .i64 (k : Nat))] (by show 2 ≤ 23; decide) rfl fun w0 N0 => ?_
 unfold ic23
 repeat (first | refine za6 ?_ | refine za0 rfl ?_ | refine za3 ?_ | refine za2 ?_ | refine za4 rfl ?_ | refine za8 rfl rfl ?_ | refine za9 rfl ?_ | refine zbw rfl rfl ?_)
 refine o_mks rfl rfl (by omega) ?_
 rw [Int.toNat_natCast, zp0]
 repeat (first | refine za6 ?_ | refine za0 rfl ?_ | refine za3 ?_ | refine za2 ?_ | refine zab ?_ | refine za4 rfl ?_)
 refine zbl (fun mm S => ∃ i, mm = k - i ∧ i ≤ k ∧
   S = st 23 [(1, .int .i64 (k : Nat)), (2, .vptr [.int .i64 (n : Nat), .vs (cPs l)]), (5, vsB (zgw (List.replicate n false) (l.take i))), (6, .int .i64 (i : Nat))] [] 0 1) k
  (zbc [] [(0, 0, [.int .i64 (n : Nat), .vs (cPs l)]), (1, 1, (List.replicate n false).map AV.bool)] rfl rfl rfl (.cons rfl rfl (.cons rfl (zbm _) .nil)) .nil (l' := [(1, .int .i64 (k : Nat)), (2, .vptr [.int .i64 (n : Nat), .vs (cPs l)]), (5, vsB (List.replicate n false)), (6, .int .i64 ((0 : Nat) : Int))]) (.cons rfl (.same rfl) (.cons rfl (.fptr rfl rfl) (.cons rfl (.fms0 rfl (by rw [List.length_map, List.length_replicate]) (fun y hy => by obtain ⟨z, _, rfl⟩ := List.mem_map.1 hy; rfl) (zgy _)) (.cons rfl (.same rfl) .nil))))) ⟨0, rfl, Nat.zero_le _, rfl⟩ ?_
 rintro mm S ⟨i, rfl, hi, rfl⟩
 unfold b23_0
 repeat (first | refine za6 ?_ | refine za0 rfl ?_ | refine za4 rfl ?_)
 refine zaq rfl rfl rfl (fun h4 => ?_) fun h4 => ?_
 ·have hlt : i < k := by
   have : ((i : Nat) : Int) < (k : Nat) := of_decide_eq_true h4
   omega
  have hll : i < l.length := by omega
  have hst := ok.step hll
  have hEl := SeqOk.behLen (n := n) (l := l) i
  have htk := zhr (E := List.replicate n false) hll
  have p1 := zu2 l[i] (zgw (List.replicate n false) (l.take i)) (by have := hst.len; omega) (by omega) (by omega) (hst.acts (by rw [hEl]))
  rw [← htk] at p1
  have hg := zhe hll
  generalize zgw (List.replicate n false) (l.take i) = E at *
  generalize hF : zgw (List.replicate n false) (l.take (i + 1)) = F at *
  generalize l[i] = p at hg p1
  obtain ⟨q, w⟩ := p
  have hg : (cPs l)[((i : Nat) : Int).toNat]? = some [.vs (cSs q), .int .i64 w] := hg
  have p1 : PF Try.prog 88 [.agg [.vs (cSs q), .int .i64 w], vsB E] (vsB F) := p1
  repeat (first | refine za6 ?_ | refine za0 rfl ?_ | refine za3 ?_ | refine za2 ?_ | refine zab ?_ | refine zac ?_ | refine zaz rfl ?_ | refine za4 rfl ?_ | refine za8 rfl rfl ?_ | refine zas rfl rfl rfl rfl ?_ | refine zag rfl rfl rfl ?_ | refine zav rfl rfl (by omega) (by assumption) rfl ?_)
  refine zaw rfl rfl p1 (fun h => Bool.noConfusion (show false = true from h)) ?_
  repeat (first | refine za0 rfl ?_ | refine za3 ?_ | refine za2 ?_ | refine zb2 ?_ | refine za4 rfl ?_ | refine zax (op := .add) rfl rfl rfl ?_)
  rw [zan i (by omega)]
  exact zat (show k - (i + 1) < k - i by omega) (zap (.cons rfl (.cons rfl (.cons rfl (.cons rfl .nil))))) ⟨i + 1, rfl, hlt, by rw [hF]⟩
 ·have hi2 : i = k := by
   have : ¬ ((i : Nat) : Int) < (k : Nat) := of_decide_eq_false h4
   omega
  subst hi2
  repeat (first | refine za3 ?_ | refine za2 ?_ | refine zb8 rfl ?_ | refine zb7 ?_ | refine zaf ?_)
  refine zc4 ?_
  repeat (first | refine za6 ?_ | refine za0 rfl ?_ | refine za3 ?_ | refine za2 ?_ | refine zak ?_ | refine zb6 ?_ | refine za4 rfl ?_)
  exact zai ⟨.inr rfl, _, rfl, rfl⟩
-- pneumatic/pneumaticref49.end
def ic132 : IC := .seq (.region [⟨(some 2), .mov (.c (.int .i64 0)), none⟩] none)
 (.seq (.seq (.region [⟨(some 3), .mov (.t 0), none⟩] none)
 (.cond (.t 3) (.seq (.region [⟨(some 2), .mov (.c (.int .i64 2)), none⟩] none)
 (.ret))
 (.skip)))
 (.seq (.region [⟨(some 2), .mov (.c (.int .i64 0)), none⟩] none)
 (.ret)))
theorem fn132 : env0.fn 132 = some ⟨4, ic132, [.t 2]⟩ := by kernel_rfl
theorem end132 (b : Bool) : PF Try.prog 132 [.bool b] (.int .i64 (zio b)) := by
 refine zbb env0_ok fn132 [(0, .bool b)] (by show 1 ≤ 4; decide) rfl fun w0 N0 => ?_
 unfold ic132
 cases b
 all_goals
  repeat (first | refine za6 ?_ | refine za0 rfl ?_ | refine za3 ?_ | refine za2 ?_ | refine zac ?_ | refine zaz rfl ?_ | refine zb8 rfl ?_ | refine zak ?_ | refine za5 ?_ | refine za4 rfl ?_)
  exact zai ⟨.inr rfl, _, rfl, rfl⟩
def b84_0 : IC := .seq (.seq (.region [⟨(some 16), .mov (.t 8), none⟩,
  ⟨(some 17), .faddr 0 (.t 2), none⟩,
  ⟨(some 18), .load none (.t 17), none⟩,
  ⟨(some 19), .bin .lss (.t 16) (.t 18), none⟩] none)
 (.cond (.t 19) (.skip)
 (.exit 0)))
 (.seq (.block 1 (.seq (.region [⟨(some 22), .faddr 1 (.t 2), none⟩,
  ⟨(some 23), .load none (.t 22), none⟩,
  ⟨(some 24), .mov (.t 1), none⟩,
  ⟨(some 25), .idxs 2 (.t 23) (.t 24), none⟩,
  ⟨(some 26), .load (some 2) (.t 25), none⟩,
  ⟨(some 27), .mov (.t 8), none⟩,
  ⟨(some 28), .call (.c (.fn 24 [] [])) [(.t 26), (.t 27)], none⟩] none)
 (.block 2 (.seq (.region [⟨(some 45), .bin .eql (.t 28) (.c (.int .i64 1)), none⟩,
  ⟨(some 44), .mov (.t 45), none⟩] none)
 (.cond (.t 44) (.region [⟨(some 46), .mov (.t 7), none⟩,
  ⟨(some 47), .bslice 1 3 [.int .i64 0, .int .i64 0, .int .i64 0] [(0, 1, (.c (.int .i64 0))), (1, 1, (.c (.int .i64 1))), (2, 1, (.c (.int .i64 2)))], none⟩,
  ⟨(some 48), .bslice 1 1 [.nils] [(0, 1, (.t 47))], none⟩,
  ⟨(some 49), .append 1 24 [.nils] (.t 46) (.t 48), none⟩,
  ⟨(some 7), .mov (.t 49), none⟩] none)
 (.seq (.region [⟨(some 51), .bin .eql (.t 28) (.c (.int .i64 (-1))), none⟩,
  ⟨(some 50), .mov (.t 51), none⟩] none)
 (.cond (.t 50) (.region [⟨(some 52), .mov (.t 7), none⟩,
  ⟨(some 53), .bslice 1 3 [.int .i64 0, .int .i64 0, .int .i64 0] [(0, 1, (.c (.int .i64 2))), (1, 1, (.c (.int .i64 3))), (2, 1, (.c (.int .i64 0)))], none⟩,
  ⟨(some 54), .bslice 1 1 [.nils] [(0, 1, (.t 53))], none⟩,
  ⟨(some 55), .append 1 24 [.nils] (.t 52) (.t 54), none⟩,
  ⟨(some 7), .mov (.t 55), none⟩] none)
 (.region [⟨(some 29), .mov (.t 7), none⟩,
  ⟨(some 30), .mov (.t 5), none⟩,
  ⟨(some 31), .mov (.t 8), none⟩,
  ⟨(some 32), .idxs 1 (.t 30) (.t 31), none⟩,
  ⟨(some 33), .load none (.t 32), none⟩,
  ⟨(some 34), .mov (.t 33), none⟩,
  ⟨(some 35), .mov (.t 6), some (34, true)⟩,
  ⟨(some 36), .mov (.t 8), some (34, true)⟩,
  ⟨(some 37), .idxs 1 (.t 35) (.t 36), some (34, true)⟩,
  ⟨(some 38), .load none (.t 37), some (34, true)⟩,
  ⟨(some 39), .pick (.t 34) (.t 38) (.c (.bool false)), none⟩,
  ⟨(some 40), .call (.c (.fn 132 [] [])) [(.t 39)], none⟩,
  ⟨(some 41), .bslice 1 1 [.int .i64 0] [(0, 1, (.t 40))], none⟩,
  ⟨(some 42), .bslice 1 1 [.nils] [(0, 1, (.t 41))], none⟩,
  ⟨(some 43), .append 1 24 [.nils] (.t 29) (.t 42), none⟩,
  ⟨(some 7), .mov (.t 43), none⟩] none))))))))
 (.region [⟨(some 20), .mov (.t 8), none⟩,
  ⟨(some 21), .bin .add (.t 20) (.c (.int .i64 1)), none⟩,
  ⟨(some 8), .mov (.t 21), none⟩] none))
-- pneumatic/pneumaticref49.Stations
def ic84 : IC := .seq (.region [⟨(some 2), .box (.t 0), none⟩,
  ⟨(some 4), .mov (.c (.nils)), none⟩] none)
 (.seq (.region [⟨(some 9), .load (some 2) (.t 2), none⟩,
  ⟨(some 10), .mov (.t 1), none⟩,
  ⟨(some 11), .call (.c (.fn 23 [] [])) [(.t 9), (.t 10)], none⟩,
  ⟨(some 12), .load (some 2) (.t 2), none⟩,
  ⟨(some 13), .mov (.t 1), none⟩,
  ⟨(some 14), .bin .add (.t 13) (.c (.int .i64 1)), none⟩,
  ⟨(some 15), .call (.c (.fn 23 [] [])) [(.t 12), (.t 14)], none⟩,
  ⟨(some 5), .mov (.t 11), none⟩,
  ⟨(some 6), .mov (.t 15), none⟩] (some [[], [], [0, 1], [], [], [4], [3, 5, 2], [2, 6, 0, 1, 2], [6, 7, 0, 1, 2, 3, 4, 5, 6, 7]]))
 (.seq (.region [⟨(some 7), .mov (.c (.nils)), none⟩] none)
 (.seq (.seq (.region [⟨(some 8), .mov (.c (.int .i64 0)), none⟩] none)
 (.block 0 (.loop b84_0)))
 (.seq (.region [⟨(some 56), .mov (.t 7), none⟩,
  ⟨(some 57), .call (.c (.fn 133 [] [])) [(.t 56)], none⟩,
  ⟨(some 4), .mov (.t 57), none⟩] none)
 (.ret)))))
theorem fn84 : env0.fn 84 = some ⟨58, ic84, [.t 4]⟩ := by kernel_rfl
set_option maxHeartbeats 4000000 in
theorem stat84 {n : Nat} {l : List Sp} (ok : SeqOk n l) (k : Nat) (hk : k < l.length) : PF Try.prog 84 [.agg (cQ n l), .int .i64 (k : Nat)] (css (zet (ze0 (zgw (List.replicate n false) (l.take k)) (aft (zgw (List.replicate n false) (l.take k)) l[k].l) l[k].l n))) := by
 have n1 := ok.n1
 have n6 := ok.n6
 have l64 := ok.l64
 have hcl : (cPs l).length = l.length := zd0 l
 have hst := ok.step hk
 have q1 := zr6 ok k (by omega)
 have q2 := zr6 ok (k + 1) (by omega)
 have htk := zhr (E := List.replicate n false) hk
 have hEl := SeqOk.behLen (n := n) (l := l) k
 have hFl := SeqOk.behLen (n := n) (l := l) (k + 1)
 rw [← htk]
 have hg := zhe hk
 have hw := way33 l[k] (by have := hst.len; omega)
 generalize zgw (List.replicate n false) (l.take k) = E at *
 generalize zgw (List.replicate n false) (l.take (k + 1)) = F at *
 generalize l[k] = p at hg hw ⊢
 obtain ⟨q, w⟩ := p
 have hg : (cPs l)[((k : Nat) : Int).toNat]? = some [.vs (cSs q), .int .i64 w] := hg
 have q1 : PF Try.prog 23 [.agg [.int .i64 (n : Nat), .vs (cPs l)], .int .i64 (k : Nat)] (vsB E) := q1
 have q2 : PF Try.prog 23 [.agg [.int .i64 (n : Nat), .vs (cPs l)], .int .i64 (k + 1 : Nat)] (vsB F) := q2
 have hw : ∀ a, PF Try.prog 24 [.agg [.vs (cSs q), .int .i64 w], .int .i64 a] (.int .i64 (zha a q)) := hw
 have hcb := zsw (ze0 E F q n) (by rw [zem]; exact n6) fun c hc => by have := (znv c hc).2; omega
 refine zbb env0_ok fn84 [(0, .agg [.int .i64 (n : Nat), .vs (cPs l)]), (1, .int .i64 (k : Nat))] (by show 2 ≤ 58; decide) rfl fun w0 N0 => ?_
 unfold ic84
 repeat (first | refine za6 ?_ | refine za0 rfl ?_ | refine za3 ?_ | refine za2 ?_ | refine za4 rfl ?_ | refine zbw rfl rfl ?_)
 refine zga env0_ok [(23, [.agg [.int .i64 (n : Nat), .vs (cPs l)], .int .i64 (k : Nat)], vsB E), (23, [.agg [.int .i64 (n : Nat), .vs (cPs l)], .int .i64 (k + 1 : Nat)], vsB F)] (fun x hx => by
    rcases List.mem_cons.1 hx with rfl | hx
    ·exact q1
    obtain rfl := List.mem_singleton.1 hx
    exact q2) (fun f => Nat.beq f 23) rfl rfl rfl ?_
 repeat (first | refine za4 rfl ?_ | refine zas rfl rfl rfl rfl ?_)
 refine zaw rfl rfl zcc (fun h => Bool.noConfusion (show false = true from h)) ?_
 repeat (first | refine za4 rfl ?_ | refine zas rfl rfl rfl rfl ?_ | refine zax (op := .add) rfl rfl rfl ?_)
 rw [zan k (by omega)]
 refine zaw rfl rfl (zt5 (fun (h : [AV.agg [.int .i64 (n : Nat), .vs (cPs l)], AV.int .i64 (k : Nat)] = [AV.agg [.int .i64 (n : Nat), .vs (cPs l)], AV.int .i64 (k + 1 : Nat)]) => by injection h with _ h; injection h with h; injection h with _ h; omega) zcc) (fun h => Bool.noConfusion (show false = true from h)) ?_
 repeat (first | refine za6 ?_ | refine za0 rfl ?_ | refine za3 ?_ | refine za2 ?_ | refine zab ?_ | refine za4 rfl ?_)
 refine zbl (fun mm S => ∃ i, mm = n - i ∧ i ≤ n ∧
   S = st 58 [(1, .int .i64 (k : Nat)), (2, .vptr [.int .i64 (n : Nat), .vs (cPs l)]), (5, vsB E), (6, vsB F), (7, .ms 0 0 1 0 i none), (8, .int .i64 (i : Nat))] [(0, 0, .cells (zgd (ze0 E F q i)))] 1 1) n
  (zbc [(none, [])] [(0, 0, [.int .i64 (n : Nat), .vs (cPs l)])] rfl rfl rfl (.cons rfl rfl .nil) (.new .nil) (l' := [(1, .int .i64 (k : Nat)), (2, .vptr [.int .i64 (n : Nat), .vs (cPs l)]), (5, vsB E), (6, vsB F), (7, .ms 0 0 1 0 0 none), (8, .int .i64 ((0 : Nat) : Int))]) (.cons rfl (.same rfl) (.cons rfl (.fptr rfl rfl) (.cons rfl (.same rfl) (.cons rfl (.same rfl) (.cons rfl (.grow rfl) (.cons rfl (.same rfl) .nil))))))) ⟨0, rfl, Nat.zero_le _, rfl⟩ ?_
 rintro mm S ⟨i, rfl, hi, rfl⟩
 unfold b84_0
 repeat (first | refine za6 ?_ | refine za0 rfl ?_ | refine za4 rfl ?_ | refine za8 rfl rfl ?_ | refine zag rfl rfl rfl ?_)
 refine zaq rfl rfl rfl (fun h4 => ?_) fun h4 => ?_
 ·have hlt : i < n := by
   have : ((i : Nat) : Int) < (n : Nat) := of_decide_eq_true h4
   omega
  have hwi := hw (i : Nat)
  have hsn : ∀ j, j = i + 1 → ze0 E F q j = ze0 E F q i ++ [znu E F q i] := by rintro j rfl; unfold ze0; rw [List.range_succ, List.map_append]; rfl
  have hsl := zem E F q i
  have hrl : (zgd (ze0 E F q i)).length = i := by show (List.map _ _).length = _; rw [List.length_map, hsl]
  have hsi : znu E F q i = if zha i q = 1 then [0, 1, 2] else if zha i q = -1 then [2, 3, 0] else [zio (E.getD i false && F.getD i false)] := rfl
  have hgE := zsj (l := E) (i := i) (by omega)
  have hgF := zsj (l := F) (i := i) (by omega)
  have hE2 : E.getD i false = E[i]'(by omega) := by rw [List.getD_eq_getElem?_getD, List.getElem?_eq_getElem (by omega)]; rfl
  have hF2 : F.getD i false = F[i]'(by omega) := by rw [List.getD_eq_getElem?_getD, List.getElem?_eq_getElem (by omega)]; rfl
  rw [hE2, hF2] at hsi
  generalize E[i]'(by omega) = b at hgE hsi
  generalize F[i]'(by omega) = c at hgF hsi
  clear hE2 hF2
  generalize ze0 E F q i = out at *
  generalize znu E F q i = si at *
  generalize zha (i : Nat) q = z at hwi hsi
  repeat (first | refine za6 ?_ | refine za0 rfl ?_ | refine za3 ?_ | refine za2 ?_ | refine zab ?_ | refine zac ?_ | refine zaz rfl ?_ | refine za4 rfl ?_ | refine za8 rfl rfl ?_ | refine zas rfl rfl rfl rfl ?_ | refine zag rfl rfl rfl ?_ | refine zav rfl rfl (by omega) (by assumption) rfl ?_)
  refine zaw rfl rfl hwi (fun h => Bool.noConfusion (show false = true from h)) ?_
  repeat (first | refine za6 ?_ | refine za0 rfl ?_ | refine za3 ?_ | refine za2 ?_ | refine zab ?_)
  refine zaq rfl rfl rfl (fun h5 => ?_) fun h5 => ?_
  ·have h5 : z = 1 := by simpa using h5
   rw [if_pos h5] at hsi
   repeat (first | refine za0 rfl ?_ | refine za3 ?_ | refine za2 ?_ | refine zaz rfl ?_ | refine za4 rfl ?_)
   refine zqb [[.int .i64 0], [.int .i64 1], [.int .i64 2]] rfl rfl rfl rfl ?_
   refine zqb [[vsI [0, 1, 2]]] rfl rfl rfl rfl ?_
   refine zbg [[vsI [0, 1, 2]]] rfl rfl rfl (fun h => Nat.noConfusion h) rfl (by decide) rfl (by rw [hrl, Nat.mul_one]) (by show i + 1 ≤ _; omega) ?_
   repeat (first | refine za0 rfl ?_ | refine za3 ?_ | refine za2 ?_ | refine zb2 ?_ | refine za4 rfl ?_ | refine zax (op := .add) rfl rfl rfl ?_)
   rw [zan i (by omega)]
   exact zat (show n - (i + 1) < n - i by omega) (zbc (l' := [(1, .int .i64 (k : Nat)), (2, .vptr [.int .i64 (n : Nat), .vs (cPs l)]), (5, vsB E), (6, vsB F), (7, .ms 0 0 1 0 (i + 1) none), (8, .int .i64 ((i + 1 : Nat) : Int))]) [(some (0, 1), zgd out ++ [vsI [0, 1, 2]])] [] rfl rfl rfl .nil (.cons rfl (.keep (zcr (zcs _) rfl)) .nil) (.cons rfl (.same rfl) (.cons rfl (.same rfl) (.cons rfl (.same rfl) (.cons rfl (.same rfl) (.cons rfl (.ms rfl) (.cons rfl (.same rfl) .nil))))))) ⟨i + 1, rfl, hlt, by rw [hsn _ rfl, zkx, hsi]; rfl⟩
  have h5 : ¬ z = 1 := by simpa using h5
  rw [if_neg h5] at hsi
  repeat (first | refine za6 ?_ | refine za0 rfl ?_ | refine za3 ?_ | refine za2 ?_ | refine zb8 rfl ?_ | refine za4 rfl ?_)
  refine zaq rfl rfl rfl (fun h6 => ?_) fun h6 => ?_
  ·have h6 : z = -1 := by simpa using h6
   rw [if_pos h6] at hsi
   repeat (first | refine za0 rfl ?_ | refine za3 ?_ | refine za2 ?_ | refine zaz rfl ?_ | refine za4 rfl ?_)
   refine zqb [[.int .i64 2], [.int .i64 3], [.int .i64 0]] rfl rfl rfl rfl ?_
   refine zqb [[vsI [2, 3, 0]]] rfl rfl rfl rfl ?_
   refine zbg [[vsI [2, 3, 0]]] rfl rfl rfl (fun h => Nat.noConfusion h) rfl (by decide) rfl (by rw [hrl, Nat.mul_one]) (by show i + 1 ≤ _; omega) ?_
   repeat (first | refine za0 rfl ?_ | refine za3 ?_ | refine za2 ?_ | refine zb2 ?_ | refine za4 rfl ?_ | refine zax (op := .add) rfl rfl rfl ?_)
   rw [zan i (by omega)]
   exact zat (show n - (i + 1) < n - i by omega) (zbc (l' := [(1, .int .i64 (k : Nat)), (2, .vptr [.int .i64 (n : Nat), .vs (cPs l)]), (5, vsB E), (6, vsB F), (7, .ms 0 0 1 0 (i + 1) none), (8, .int .i64 ((i + 1 : Nat) : Int))]) [(some (0, 1), zgd out ++ [vsI [2, 3, 0]])] [] rfl rfl rfl .nil (.cons rfl (.keep (zcr (zcs _) rfl)) .nil) (.cons rfl (.same rfl) (.cons rfl (.same rfl) (.cons rfl (.same rfl) (.cons rfl (.same rfl) (.cons rfl (.ms rfl) (.cons rfl (.same rfl) .nil))))))) ⟨i + 1, rfl, hlt, by rw [hsn _ rfl, zkx, hsi]; rfl⟩
  have h6 : ¬ z = -1 := by simpa using h6
  rw [if_neg h6] at hsi
  cases b <;> cases c
  all_goals
   repeat (first | refine za0 rfl ?_ | refine za3 ?_ | refine za2 ?_ | refine zb8 rfl ?_ | refine zc3 rfl ?_ | refine zdl rfl rfl ?_ | refine za4 rfl ?_ | refine za8 rfl rfl ?_ | refine zar rfl rfl ?_ | refine zal rfl rfl ?_ | refine zav rfl rfl (by omega) (by assumption) rfl ?_)
  all_goals
   refine zaw rfl rfl (end132 _) (fun h => Bool.noConfusion (show false = true from h)) ?_
   refine zqb [[.int .i64 _]] rfl rfl rfl rfl ?_
   refine zqb [[vsI [_]]] rfl rfl rfl rfl ?_
   refine zbg [[vsI [_]]] rfl rfl rfl (fun h => Nat.noConfusion h) rfl (by decide) rfl (by rw [hrl, Nat.mul_one]) (by show i + 1 ≤ _; omega) ?_
   repeat (first | refine za0 rfl ?_ | refine za3 ?_ | refine za2 ?_ | refine zb2 ?_ | refine za4 rfl ?_ | refine zax (op := .add) rfl rfl rfl ?_)
   rw [zan i (by omega)]
   exact zat (show n - (i + 1) < n - i by omega) (zbc (l' := [(1, .int .i64 (k : Nat)), (2, .vptr [.int .i64 (n : Nat), .vs (cPs l)]), (5, vsB E), (6, vsB F), (7, .ms 0 0 1 0 (i + 1) none), (8, .int .i64 ((i + 1 : Nat) : Int))]) [(some (0, 1), zgd out ++ [vsI si])] [] rfl rfl rfl .nil (.cons (by rw [hsi]; rfl) (.keep (zcr (zcs _) rfl)) .nil) (.cons rfl (.same rfl) (.cons rfl (.same rfl) (.cons rfl (.same rfl) (.cons rfl (.same rfl) (.cons rfl (.ms rfl) (.cons rfl (.same rfl) .nil))))))) ⟨i + 1, rfl, hlt, by rw [hsn _ rfl, zkx]; rfl⟩
 ·have hi2 : i = n := by
   have : ¬ ((i : Nat) : Int) < (n : Nat) := of_decide_eq_false h4
   omega
  subst hi2
  have hsl := zem E F q i
  repeat (first | refine za3 ?_ | refine za2 ?_ | refine zb8 rfl ?_ | refine zb7 ?_ | refine zaf ?_)
  refine zc4 (zb6 (za2 ?_))
  refine zpa [] [(0, 0, zgd (ze0 E F q i))] [(7, css (ze0 E F q i))] rfl (.cons rfl (zcs _) .nil) .nil (.cons rfl (by rw [zin]; exact .fms1 rfl (by show (List.map _ _).length = _; rw [List.length_map, hsl])) .nil) ?_
  repeat (first | refine za6 ?_ | refine za0 rfl ?_ | refine za4 rfl ?_)
  refine zaw rfl rfl hcb (fun h => Bool.noConfusion (show false = true from h)) ?_
  repeat (first | refine za3 ?_ | refine za2 ?_ | refine zak ?_ | refine za4 rfl ?_)
  exact zai ⟨.inr rfl, _, rfl, rfl⟩
end
end Go.Proofs.Ytoiblgbaeglgoaa
