/-
  THE REFERENCE's PATHS: Joined and Way walked.
-/
import Derived.Test.YtoagikifehmlpaaFJ1
import Derived.Test.YtoagikifehmlpaaFF8
namespace Go.Proofs.Ytoagikifehmlpaa
open Go Go.Am
def b68_0 : IC := .seq (.seq (.region [⟨(some 8), .mov (.t 7), none⟩,
  ⟨(some 9), .faddr 1 (.t 3), none⟩,
  ⟨(some 10), .load none (.t 9), none⟩,
  ⟨(some 11), .len false (.t 10), none⟩,
  ⟨(some 12), .bin .lss (.t 8) (.t 11), none⟩] none)
 (.cond (.t 12) (.skip)
 (.exit 0)))
 (.seq (.block 1 (.seq (.region [⟨(some 15), .faddr 1 (.t 3), none⟩,
  ⟨(some 16), .load none (.t 15), none⟩,
  ⟨(some 17), .mov (.t 7), none⟩,
  ⟨(some 18), .idxs 2 (.t 16) (.t 17), none⟩,
  ⟨(some 19), .faddr 0 (.t 18), none⟩,
  ⟨(some 20), .load none (.t 19), none⟩,
  ⟨(some 21), .mov (.t 1), none⟩,
  ⟨(some 22), .bin .eql (.t 20) (.t 21), none⟩,
  ⟨(some 23), .mov (.t 22), none⟩,
  ⟨(some 24), .faddr 1 (.t 3), some (23, true)⟩,
  ⟨(some 25), .load none (.t 24), some (23, true)⟩,
  ⟨(some 26), .mov (.t 7), some (23, true)⟩,
  ⟨(some 27), .idxs 2 (.t 25) (.t 26), some (23, true)⟩,
  ⟨(some 28), .faddr 1 (.t 27), some (23, true)⟩,
  ⟨(some 29), .load none (.t 28), some (23, true)⟩,
  ⟨(some 30), .mov (.t 2), some (23, true)⟩,
  ⟨(some 31), .bin .eql (.t 29) (.t 30), some (23, true)⟩,
  ⟨(some 32), .pick (.t 23) (.t 31) (.c (.bool false)), none⟩] none)
 (.cond (.t 32) (.seq (.region [⟨(some 6), .mov (.c (.bool true)), none⟩] none)
 (.ret))
 (.skip))))
 (.region [⟨(some 13), .mov (.t 7), none⟩,
  ⟨(some 14), .bin .add (.t 13) (.c (.int .i64 1)), none⟩,
  ⟨(some 7), .mov (.t 14), none⟩] none))
-- pneumatic/pneumaticref10.Joined
def ic68 : IC := .seq (.region [⟨(some 3), .box (.t 0), none⟩,
  ⟨(some 6), .mov (.c (.bool false)), none⟩] none)
 (.seq (.seq (.region [⟨(some 7), .mov (.c (.int .i64 0)), none⟩] none)
 (.block 0 (.loop b68_0)))
 (.seq (.region [⟨(some 6), .mov (.c (.bool false)), none⟩] none)
 (.ret)))
theorem fn68 : env0.fn 68 = some ⟨33, ic68, [.t 6]⟩ := by kernel_rfl
set_option maxHeartbeats 1000000 in
theorem zoj (m : Nat) (E : List (Nat × Nat)) (hE : E.length ≤ 1000000) (v w : Nat) : PF Try.prog 68 [cG (m : Nat) (zai E), .int .i64 (v : Nat), .int .i64 (w : Nat)] (.bool (E.contains (v, w))) := by
 have hcl : (cE (zai E)).length = E.length := by rw [zc2]; exact List.length_map ..
 refine zav env0_ok fn68 [(0, .agg [.int .i64 (m : Nat), .vs (cE (zai E))]), (1, .int .i64 (v : Nat)), (2, .int .i64 (w : Nat))] (by show 3 ≤ 33; decide) rfl fun w0 N0 => ?_
 unfold ic68
 refine za5 (za0 rfl (zd3 rfl rfl (za1 rfl (za3 (za2 ?_)))))
 refine zbf [] [(0, 0, [.int .i64 (m : Nat), .vs (cE (zai E))])] [(1, .int .i64 (v : Nat)), (2, .int .i64 (w : Nat)), (3, .vptr [.int .i64 (m : Nat), .vs (cE (zai E))])] rfl (.cons rfl rfl .nil) .nil (.cons rfl (.same rfl) (.cons rfl (.same rfl) (.cons rfl (.fptr rfl rfl) .nil))) ?_
 repeat (first | refine za5 ?_ | refine za0 rfl ?_ | refine za3 ?_ | refine za2 ?_ | refine zaa ?_ | refine za1 rfl ?_)
 refine zba (fun mm S => ∃ i, mm = E.length - i ∧ i ≤ E.length ∧ (v, w) ∉ E.take i ∧ S = st 33 [(1, .int .i64 (v : Nat)), (2, .int .i64 (w : Nat)), (3, .vptr [.int .i64 (m : Nat), .vs (cE (zai E))]), (7, .int .i64 (i : Nat))] [] 0 1) E.length
  (za7 (.cons rfl (.cons rfl (.cons rfl (.cons rfl .nil))))) ⟨0, rfl, Nat.zero_le _, by simp, rfl⟩ ?_
 rintro mm S ⟨i, rfl, hi, hno, rfl⟩
 unfold b68_0
 repeat (first | refine za5 ?_ | refine za0 rfl ?_ | refine za1 rfl ?_ | refine zaf rfl rfl ?_ | refine zac rfl rfl rfl ?_ | refine zbg rfl rfl ?_)
 refine zam rfl rfl rfl (fun h3 => ?_) fun h3 => ?_
 ·have hlt : i < E.length := by
   have h4 : ((i : Nat) : Int) < (((cE (zai E)).length : Nat) : Int) := of_decide_eq_true h3
   omega
  have w1 : IntKind.wrap .i64 (((i : Nat) : Int) + 1) = ((i + 1 : Nat) : Int) := zak i (by omega)
  have hg := zdq hlt
  have hts : E.take (i + 1) = E.take i ++ [(E[i].1, E[i].2)] := by rw [List.take_add_one, List.getElem?_eq_getElem hlt]; rfl
  have hmm : (E[i].1, E[i].2) ∈ E := List.getElem_mem hlt
  generalize E[i].1 = a at *
  generalize E[i].2 = b at *
  have no : (a, b) ≠ (v, w) → (v, w) ∉ E.take (i + 1) := fun hne => by
   rw [hts, List.mem_append, List.mem_singleton]
   exact fun h => h.elim hno fun e => hne e.symm
  repeat (first | refine za5 ?_ | refine za0 rfl ?_ | refine za3 ?_ | refine za2 ?_ | refine zaa ?_ | refine zad ?_ | refine zbt rfl ?_ | refine za1 rfl ?_ | refine zaf rfl rfl ?_ | refine zac rfl rfl rfl ?_ | refine zb1 rfl rfl (by omega) (by assumption) rfl ?_)
  refine zam rfl rfl rfl (fun h4 => ?_) fun h4 => ?_
  ·have h4 : a = v := Int.ofNat_inj.1 (by simpa using h4)
   repeat (first | refine zd4 rfl ?_ | refine za1 rfl ?_ | refine zaf rfl rfl ?_ | refine zac rfl rfl rfl ?_ | refine zb1 rfl rfl (by omega) (by assumption) rfl ?_)
   refine zam rfl rfl rfl (fun h5 => ?_) fun h5 => ?_
   ·have h5 : b = w := Int.ofNat_inj.1 (by simpa using h5)
    rw [show E.contains (v, w) = true from List.contains_iff_mem.2 (by rw [← h4, ← h5]; exact hmm)]
    repeat (first | refine za5 ?_ | refine za0 rfl ?_ | refine za3 ?_ | refine za2 ?_ | refine zbt rfl ?_ | refine zat ?_ | refine zag ?_ | refine zb4 ?_ | refine za1 rfl ?_ | refine zal rfl rfl ?_)
    exact zao ⟨.inr rfl, _, rfl, rfl⟩
   ·have h5 : ¬ b = w := fun e => (show ¬ ((b : Nat) : Int) = (w : Nat) by simpa using h5) (by rw [e])
    repeat (first | refine za0 rfl ?_ | refine za3 ?_ | refine za2 ?_ | refine zb7 ?_ | refine zad ?_ | refine zbm rfl ?_ | refine za1 rfl ?_ | refine zal rfl rfl ?_ | refine zaz (op := .add) rfl rfl rfl ?_)
    rw [w1]
    exact zaj (show E.length - (i + 1) < E.length - i by omega) (za7 (.cons rfl (.cons rfl (.cons rfl (.cons rfl .nil))))) ⟨i + 1, rfl, hlt, no fun e => h5 (by injection e), rfl⟩
  ·have h4 : ¬ a = v := fun e => (show ¬ ((a : Nat) : Int) = (v : Nat) by simpa using h4) (by rw [e])
   repeat (first | refine za0 rfl ?_ | refine za3 ?_ | refine za2 ?_ | refine zb7 ?_ | refine zad ?_ | refine zbm rfl ?_ | refine zik rfl rfl ?_ | refine za1 rfl ?_ | refine zax rfl rfl ?_ | refine zaz (op := .add) rfl rfl rfl ?_)
   rw [w1]
   exact zaj (show E.length - (i + 1) < E.length - i by omega) (za7 (.cons rfl (.cons rfl (.cons rfl (.cons rfl .nil))))) ⟨i + 1, rfl, hlt, no fun e => h4 (by injection e), rfl⟩
 ·have hie : i = E.length := by
   have h4 : ¬ ((i : Nat) : Int) < (((cE (zai E)).length : Nat) : Int) := of_decide_eq_false h3
   omega
  subst hie
  rw [List.take_length] at hno
  rw [show E.contains (v, w) = false from by
   cases hc : E.contains (v, w) with
   | false => rfl
   | true => exact absurd (List.contains_iff_mem.1 hc) hno]
  repeat (first | refine za3 ?_ | refine za2 ?_ | refine zbm rfl ?_ | refine zb9 ?_ | refine zab ?_)
  refine zc8 ?_
  repeat (first | refine za5 ?_ | refine za0 rfl ?_ | refine za3 ?_ | refine za2 ?_ | refine zat ?_ | refine zb8 ?_ | refine za1 rfl ?_)
  exact zao ⟨.inr rfl, _, rfl, rfl⟩
inductive Wq (hp : List (Nat × Nat × AObj)) (nx : Nat) (q : List Int) : AV → Prop
 | lit {id sp : Nat} (a : Int) (hq : q = [a]) (hl : Am.look id hp = some (sp, .cells [.int .i64 a])) (hn : id < nx) : Wq hp nx q (.ms id sp 1 0 1 (some 1))
 | gen {id sp len : Nat} (hlen : len = q.length) (hl : Am.look id hp = some (sp, .cells (q.map (AV.int .i64)))) (hn : id < nx) : Wq hp nx q (.ms id sp 1 0 len none)
theorem Wq.fresh {nx : Nat} {hp : List (Nat × Nat × AObj)} {q : List Int} {qv : AV} (h : Wq hp nx q qv) (ck : Nat) (x : AObj) : Wq ((nx, ck, x) :: hp) (nx + 1) q qv := by
 cases h with
 | lit a hq hl hn => exact .lit a hq (by rw [za9, if_neg (by omega)]; exact hl) (by omega)
 | gen hlen hl hn => exact .gen hlen (by rw [za9, if_neg (by omega)]; exact hl) (by omega)
theorem Wq.view {nx d : Nat} {S : AS} {q : List Int} {qv : AV} (h : Wq S.heap nx q qv) : S.view (d + 1) qv = vsI q := by
 cases h with
 | lit a hq hl hn => subst hq; exact zbl [a] rfl hl
 | gen hlen hl hn => subst hlen; exact zbl q rfl hl
theorem o_wapp {w0 : World} {N0 n d nx ck : Nat} {k : List Fr} {Q : Exit → AS → Prop} {l : List (Nat × AV)} {ios : List Opr} {q : List Int} {qv : AV} {hp : List (Nat × Nat × AObj)} {bytes j sj : Nat} {x0 : Int} {z : List AV} {s x : Arg} (hF : Wq hp nx q qv) (hlen : q.length ≤ 1000000) (hs : zbb s l = some qv) (hx : zbb x l = some (.ms j sj 1 0 1 (some 1))) (hj : Am.look j hp = some (sj, .cells [.int .i64 x0])) (hb : bytes ≤ 16777216)
  (go : ∀ id sp hp' nx' ck', Am.look id hp' = some (sp, .cells ((q ++ [x0]).map (AV.int .i64))) → id < nx' → Om Try.prog w0 N0 none (KnP Try.prog w0 N0) ios (st n ((d, .ms id sp 1 0 (q.length + 1) none) :: l) hp' nx' ck') k Q) :
  Om Try.prog w0 N0 none (KnP Try.prog w0 N0) (⟨some d, .append 1 bytes z s x, none⟩ :: ios) (st n l hp nx ck) k Q := by
 have hel : (st n l hp nx ck []).elems 1 (.ms j sj 1 0 1 (some 1)) = some [[.int .i64 x0]] := zd9 (xs := [[.int .i64 x0]]) (ys := []) hj rfl fun x hx => by obtain rfl := List.mem_singleton.1 hx; rfl
 cases hF with
 | @lit id sp a hq hl hn =>
  subst hq
  have hi : iop (st n l hp nx ck) (.append 1 bytes z s x) = some (.ms nx ck 1 0 2 none, st n l ((nx, ck, .cells ([a, x0].map (AV.int .i64))) :: hp) (nx + 1) (ck + 1)) := by
   simp only [iop, zaw, hs, hx, hel]
   unfold zbd
   rw [if_neg (show ¬ [[AV.int .i64 x0]].length = 0 from Nat.succ_ne_zero 0), if_pos (show [[AV.int .i64 x0]].flatten.all AV.isCell = true ∧ bytes ≤ 16777216 from ⟨rfl, hb⟩)]
   simp only [show (st n l hp nx ck []).heap = hp from rfl, hl]
   rw [if_pos (show True ∧ True ∧ 0 + 1 * 1 ≤ ([AV.int .i64 a]).length ∧ 1 + [[AV.int .i64 x0]].length ≤ 1048576 from ⟨trivial, trivial, Nat.le_refl 1, (by show 2 ≤ 1048576; decide)⟩), if_neg (show ¬ 1 + [[AV.int .i64 x0]].length ≤ 1 from (by show ¬ 2 ≤ 1; decide))]
   rfl
  exact zeh hi (go _ _ _ _ _ zb6 (Nat.lt_succ_self _)) (fun _ _ _ _ _ _ _ => rfl)
 | @gen id sp len hlen2 hl hn =>
  subst hlen2
  refine zdf [[.int .i64 x0]] hs hx hel (fun h => Nat.noConfusion h) rfl hb hl (by rw [List.length_map, Nat.mul_one]) (by show _ + 1 ≤ _; omega) ?_ (fun _ _ _ _ _ _ _ => rfl)
  exact go _ _ _ _ _ (by rw [za8, if_pos rfl, List.map_append]; rfl) hn
def dnx (P : Nat → Bool) (m i : Nat) : Int := match ((List.range m).drop i).find? P with
 | some u => (u : Nat)
 | none => -1
theorem zfr {P : Nat → Bool} {m i : Nat} (h : i < m) : dnx P m i = if P i = true then ((i : Nat) : Int) else dnx P m (i + 1) := by
 unfold dnx
 rw [List.drop_eq_getElem_cons (by rw [List.length_range]; exact h), List.getElem_range, List.find?_cons]
 cases P i <;> rfl
theorem zhi (P : Nat → Bool) (m : Nat) : dnx P m m = -1 := by
 unfold dnx
 rw [List.drop_of_length_le (by rw [List.length_range]; exact Nat.le_refl _)]
 rfl
theorem dnx_nxt {E : List (Nat × Nat)} {m v : Nat} {back : List Int} {w : Nat} (h : (nbr E m v).find? (prB back v) = some w) : dnx (fun w => E.contains (v, w) && prB back v w) m 0 = (w : Nat) := by
 unfold nbr at h
 rw [List.find?_filter] at h
 unfold dnx
 rw [List.drop_zero]
 have e : (fun a => E.contains (v, a) && prB back v a) = fun a => decide (E.contains (v, a) = true ∧ prB back v a = true) := by
  funext a
  cases E.contains (v, a) <;> cases prB back v a <;> rfl
 rw [e, h]
end Go.Proofs.Ytoagikifehmlpaa
