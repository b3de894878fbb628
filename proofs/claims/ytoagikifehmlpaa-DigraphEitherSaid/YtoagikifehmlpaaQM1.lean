/-
  slices.Contains on numbers and on edges; right.
-/
import Derived.Test.YtoagikifehmlpaaQK1
import Derived.Test.YtoagikifehmlpaaQG1
namespace Go.Proofs.Ytoagikifehmlpaa
open Go Go.Am
theorem dnx_ge {P : Nat → Bool} {m : Nat} : dnx P m 0 ≥ 0 ↔ ∃ i, i < m ∧ P i = true := by
 unfold dnx
 rw [List.drop_zero]
 constructor
 ·intro h
  split at h
  ·rename_i u hu
   exact ⟨u, List.mem_range.1 (List.mem_of_find?_eq_some hu), List.find?_some hu⟩
  ·omega
 ·rintro ⟨i, h1, h2⟩
  split
  ·omega
  ·rename_i hn
   exact absurd h2 (List.find?_eq_none.1 hn i (List.mem_range.2 h1))
theorem dnx_has (a : List Int) (x : Int) : decide (dnx (fun i => gZ a i == x) a.length 0 ≥ 0) = a.contains x := by
 rw [Bool.eq_iff_iff, decide_eq_true_eq, dnx_ge, List.contains_iff_mem]
 constructor
 ·rintro ⟨i, h1, h2⟩
  rw [beq_iff_eq, ← gZ_at h1] at h2
  rw [← h2]
  exact List.getElem_mem h1
 ·intro h
  obtain ⟨i, h1, h2⟩ := List.mem_iff_getElem.1 h
  exact ⟨i, h1, by rw [beq_iff_eq, ← gZ_at h1]; exact h2⟩
-- slices.Contains[[]int,int]
def ic24 : IC := .seq (.region [⟨(some 4), .mov (.c (.bool false)), none⟩] none)
 (.seq (.region [⟨(some 5), .mov (.t 0), none⟩,
  ⟨(some 6), .mov (.t 1), none⟩,
  ⟨(some 7), .call (.c (.fn 26 [] [])) [(.t 5), (.t 6)], none⟩,
  ⟨(some 8), .bin .geq (.t 7) (.c (.int .i64 0)), none⟩,
  ⟨(some 4), .mov (.t 8), none⟩] none)
 (.ret))
theorem fn24 : env0.fn 24 = some ⟨9, ic24, [.t 4]⟩ := by kernel_rfl
set_option maxHeartbeats 1000000 in
theorem zim (a : List Int) (x : Int) (ha : a.length ≤ 1000000) : PF Try.prog 24 [vsI a, .int .i64 x] (.bool (a.contains x)) := by
 have p26 := zk1 a x ha
 have hh := dnx_has a x
 generalize dnx (fun i => gZ a i == x) a.length 0 = d at *
 refine zb4 env0_ok fn24 [(0, vsI a), (1, .int .i64 x)] (by show 2 ≤ 9; decide) rfl fun w0 N0 => ?_
 unfold ic24
 repeat (first | refine za6 ?_ | refine za0 rfl ?_ | refine za5 ?_ | refine za3 ?_ | refine za2 rfl ?_)
 refine zak rfl rfl p26 (fun h => Bool.noConfusion (show false = true from h)) ?_
 refine zau rfl rfl rfl (fun h => ?_) fun h => ?_
 ·rw [← hh, show decide (d ≥ 0) = true from h]
  repeat (first | refine za5 ?_ | refine za3 ?_ | refine zaq ?_ | refine za2 rfl ?_)
  exact zao ⟨.inr rfl, _, rfl, rfl⟩
 ·rw [← hh, show decide (d ≥ 0) = false from h]
  repeat (first | refine za5 ?_ | refine za3 ?_ | refine zaq ?_ | refine za2 rfl ?_)
  exact zao ⟨.inr rfl, _, rfl, rfl⟩
def b51_0 : IC := .seq (.region [⟨(some 9), .bin .lss (.t 8) (.t 7), none⟩] none)
 (.seq (.cond (.t 9) (.skip)
 (.exit 0))
 (.seq (.block 1 (.seq (.region [⟨(some 10), .mov (.t 8), none⟩,
  ⟨(some 5), .mov (.t 10), none⟩] none)
 (.seq (.region [⟨(some 11), .load (some 2) (.t 3), none⟩,
  ⟨(some 12), .mov (.t 0), none⟩,
  ⟨(some 13), .mov (.t 5), none⟩,
  ⟨(some 14), .idxs 2 (.t 12) (.t 13), none⟩,
  ⟨(some 15), .load (some 2) (.t 14), none⟩,
  ⟨(some 16), .eqs false [(0, .int), (1, .int)] (.t 11) (.t 15), none⟩] (some [[], [], [], [1, 2], [3], [0, 4]]))
 (.cond (.t 16) (.seq (.region [⟨(some 17), .mov (.t 5), none⟩,
  ⟨(some 4), .mov (.t 17), none⟩] none)
 (.ret))
 (.skip)))))
 (.region [⟨(some 18), .bin .add (.t 8) (.c (.int .i64 1)), none⟩,
  ⟨(some 8), .mov (.t 18), none⟩] none)))
-- slices.Index[[]pneumatic/api.Edge,pneumatic/api.Edge]
def ic51 : IC := .seq (.region [⟨(some 3), .box (.t 1), none⟩,
  ⟨(some 4), .mov (.c (.int .i64 0)), none⟩] none)
 (.seq (.seq (.region [⟨(some 6), .mov (.t 0), none⟩,
  ⟨(some 7), .len false (.t 6), none⟩,
  ⟨(some 8), .mov (.c (.int .i64 0)), none⟩] none)
 (.block 0 (.loop b51_0)))
 (.seq (.region [⟨(some 4), .mov (.c (.int .i64 (-1))), none⟩] none)
 (.ret)))
theorem fn51 : env0.fn 51 = some ⟨19, ic51, [.t 4]⟩ := by kernel_rfl
def eZ (es : List (Int × Int)) (i : Nat) : Int × Int := es.getD i (0, 0)
theorem eZ_at {es : List (Int × Int)} {i : Nat} (h : i < es.length) : es[i] = eZ es i := by
 unfold eZ
 rw [List.getD_eq_getElem?_getD, List.getElem?_eq_getElem h]
 rfl
set_option maxHeartbeats 1000000 in
theorem index51 (es : List (Int × Int)) (a b : Int) (he : es.length ≤ 1000000) : PF Try.prog 51 [.vs (cE es), .agg [.int .i64 a, .int .i64 b]] (.int .i64 (dnx (fun i => eZ es i == (a, b)) es.length 0)) := by
 have hcl := zcg es
 refine zb4 env0_ok fn51 [(0, .vs (cE es)), (1, .agg [.int .i64 a, .int .i64 b])] (by show 2 ≤ 19; decide) rfl fun w0 N0 => ?_
 unfold ic51
 refine za6 (za0 rfl (ze8 rfl rfl (za2 rfl (za5 (za3 ?_)))))
 refine zby [] [(0, 0, [.int .i64 a, .int .i64 b])] [(0, .vs (cE es)), (3, .vptr [.int .i64 a, .int .i64 b])] rfl (.cons rfl rfl .nil) .nil (.cons rfl (.same rfl) (.cons rfl (.fptr rfl rfl) .nil)) ?_
 repeat (first | refine za6 ?_ | refine za0 rfl ?_ | refine za5 ?_ | refine za3 ?_ | refine zae ?_ | refine za2 rfl ?_ | refine zbf rfl rfl ?_)
 refine zbx (fun mm S => ∃ i, mm = es.length - i ∧ i ≤ es.length ∧ dnx (fun i => eZ es i == (a, b)) es.length i = dnx (fun i => eZ es i == (a, b)) es.length 0 ∧ S = st 19 [(0, .vs (cE es)), (3, .vptr [.int .i64 a, .int .i64 b]), (7, .int .i64 (es.length : Nat)), (8, .int .i64 (i : Nat))] [] 0 1) es.length
  (za9 (.cons rfl (.cons rfl (.cons (by exact congrArg (fun z : Nat => some (AV.int .i64 (z : Nat))) hcl) (.cons rfl .nil))))) ⟨0, rfl, Nat.zero_le _, rfl, rfl⟩ ?_
 rintro mm S ⟨i, rfl, hi, hd, rfl⟩
 unfold b51_0
 repeat (first | refine za6 ?_ | refine za0 rfl ?_)
 refine zau rfl rfl rfl (fun h3 => ?_) fun h3 => ?_
 ·have hlt : i < es.length := Int.ofNat_lt.1 (of_decide_eq_true h3)
  have w1 : IntKind.wrap .i64 (((i : Nat) : Int) + 1) = ((i + 1 : Nat) : Int) := zar i (by omega)
  have hg := znt hlt
  rw [zjo hlt, ← eZ_at hlt] at hd
  obtain ⟨c, d, hcd⟩ : ∃ c d, es[i] = (c, d) := ⟨_, _, rfl⟩
  rw [hcd] at hg hd
  repeat (first | refine za6 ?_ | refine za0 rfl ?_ | refine za5 ?_ | refine za3 ?_ | refine zae ?_ | refine zad ?_ | refine zcp rfl ?_ | refine za2 rfl ?_ | refine zax rfl rfl rfl rfl ?_ | refine zg0 env0_ok rfl rfl rfl ?_ | refine zaw rfl rfl (by omega) (by assumption) rfl ?_)
  refine o_eqs (r := (a == c) && (b == d)) rfl rfl (by simp [zpf, eqK]) (fun h4 => ?_) fun h4 => ?_
  ·have h4 : a = c ∧ b = d := by simpa using h4
   rw [if_pos (by rw [h4.1, h4.2]; exact beq_self_eq_true _)] at hd
   rw [← hd]
   repeat (first | refine za6 ?_ | refine za0 rfl ?_ | refine za5 ?_ | refine za3 ?_ | refine zcp rfl ?_ | refine zaq ?_ | refine zac ?_ | refine zba ?_ | refine za2 rfl ?_)
   exact zao ⟨.inr rfl, _, rfl, rfl⟩
  ·have h4 : ¬ (a = c ∧ b = d) := by simpa using h4
   rw [if_neg (fun e => h4 (by rw [beq_iff_eq] at e; injection e with e1 e2; exact ⟨e1.symm, e2.symm⟩))] at hd
   repeat (first | refine za0 rfl ?_ | refine za5 ?_ | refine za3 ?_ | refine zcb ?_ | refine zad ?_ | refine zce rfl ?_ | refine za2 rfl ?_ | refine zbe (op := .add) rfl rfl rfl ?_)
   rw [w1]
   exact zay (show es.length - (i + 1) < es.length - i by omega) (za9 (.cons rfl (.cons rfl (.cons rfl (.cons rfl .nil))))) ⟨i + 1, rfl, hlt, hd, rfl⟩
 ·have hi2 : i = es.length := by
   have : ¬ i < es.length := fun h => of_decide_eq_false h3 (Int.ofNat_lt.2 h)
   omega
  subst hi2
  rw [zmf] at hd
  rw [← hd]
  repeat (first | refine za6 ?_ | refine za5 ?_ | refine za3 ?_ | refine zce rfl ?_ | refine zbw ?_ | refine zag ?_)
  refine zdb ?_
  repeat (first | refine za6 ?_ | refine za0 rfl ?_ | refine za5 ?_ | refine za3 ?_ | refine zaq ?_ | refine zbv ?_ | refine za2 rfl ?_)
  exact zao ⟨.inr rfl, _, rfl, rfl⟩
-- slices.Contains[[]pneumatic/api.Edge,pneumatic/api.Edge]
def ic25 : IC := .seq (.region [⟨(some 3), .box (.t 1), none⟩,
  ⟨(some 4), .mov (.c (.bool false)), none⟩] none)
 (.seq (.region [⟨(some 5), .mov (.t 0), none⟩,
  ⟨(some 6), .load (some 2) (.t 3), none⟩,
  ⟨(some 7), .call (.c (.fn 51 [] [])) [(.t 5), (.t 6)], none⟩,
  ⟨(some 8), .bin .geq (.t 7) (.c (.int .i64 0)), none⟩,
  ⟨(some 4), .mov (.t 8), none⟩] none)
 (.ret))
theorem fn25 : env0.fn 25 = some ⟨9, ic25, [.t 4]⟩ := by kernel_rfl
theorem dnx_hasE (es : List (Int × Int)) (x : Int × Int) : decide (dnx (fun i => eZ es i == x) es.length 0 ≥ 0) = es.contains x := by
 rw [Bool.eq_iff_iff, decide_eq_true_eq, dnx_ge, List.contains_iff_mem]
 constructor
 ·rintro ⟨i, h1, h2⟩
  rw [beq_iff_eq, ← eZ_at h1] at h2
  rw [← h2]
  exact List.getElem_mem h1
 ·intro h
  obtain ⟨i, h1, h2⟩ := List.mem_iff_getElem.1 h
  exact ⟨i, h1, by rw [beq_iff_eq, ← eZ_at h1]; exact h2⟩
set_option maxHeartbeats 1000000 in
theorem zin (es : List (Int × Int)) (a b : Int) (he : es.length ≤ 1000000) : PF Try.prog 25 [.vs (cE es), .agg [.int .i64 a, .int .i64 b]] (.bool (es.contains (a, b))) := by
 have p51 := index51 es a b he
 have hh := dnx_hasE es (a, b)
 generalize dnx (fun i => eZ es i == (a, b)) es.length 0 = d at *
 refine zb4 env0_ok fn25 [(0, .vs (cE es)), (1, .agg [.int .i64 a, .int .i64 b])] (by show 2 ≤ 9; decide) rfl fun w0 N0 => ?_
 unfold ic25
 repeat (first | refine za6 ?_ | refine za0 rfl ?_ | refine za5 ?_ | refine za3 ?_ | refine za2 rfl ?_ | refine zax rfl rfl rfl rfl ?_ | refine ze8 rfl rfl ?_)
 refine zak rfl rfl p51 (fun h => Bool.noConfusion (show false = true from h)) ?_
 refine zau rfl rfl rfl (fun h => ?_) fun h => ?_
 ·rw [← hh, show decide (d ≥ 0) = true from h]
  repeat (first | refine za5 ?_ | refine za3 ?_ | refine zaq ?_ | refine za2 rfl ?_)
  exact zao ⟨.inr rfl, _, rfl, rfl⟩
 ·rw [← hh, show decide (d ≥ 0) = false from h]
  repeat (first | refine za5 ?_ | refine za3 ?_ | refine zaq ?_ | refine za2 rfl ?_)
  exact zao ⟨.inr rfl, _, rfl, rfl⟩
theorem zky (E : List (Nat × Nat)) (u v : Nat) : (zal E).contains (((u : Nat) : Int), ((v : Nat) : Int)) = E.contains (u, v) := by
 rw [Bool.eq_iff_iff, List.contains_iff_mem, List.contains_iff_mem]
 unfold zal
 rw [List.mem_map]
 constructor
 ·rintro ⟨⟨a, b⟩, h, e⟩
  injection e with e1 e2
  rw [← Int.ofNat_inj.1 e1, ← Int.ofNat_inj.1 e2]
  exact h
 ·intro h
  exact ⟨(u, v), h, rfl⟩
-- pneumatic/pneumaticlaw10.right
def ic20 : IC := .seq (.region [⟨(some 1), .box (.t 0), none⟩,
  ⟨(some 2), .mov (.c (.bool false)), none⟩] none)
 (.seq (.region [⟨(some 3), .faddr 0 (.t 1), none⟩,
  ⟨(some 4), .load none (.t 3), none⟩,
  ⟨(some 5), .bin .leq (.t 4) (.c (.int .i64 12)), none⟩,
  ⟨(some 6), .mov (.t 5), none⟩,
  ⟨(some 7), .faddr 1 (.t 1), some (6, true)⟩,
  ⟨(some 8), .load none (.t 7), some (6, true)⟩,
  ⟨(some 9), .len false (.t 8), some (6, true)⟩,
  ⟨(some 10), .bin .leq (.t 9) (.c (.int .i64 30)), some (6, true)⟩,
  ⟨(some 11), .pick (.t 6) (.t 10) (.c (.bool false)), none⟩,
  ⟨(some 12), .mov (.t 11), none⟩,
  ⟨(some 13), .load (some 2) (.t 1), some (12, true)⟩,
  ⟨(some 14), .call (.c (.fn 35 [] [])) [(.t 13)], some (12, true)⟩,
  ⟨(some 15), .bin .eql (.t 14) (.c (.int .i64 0)), some (12, true)⟩,
  ⟨(some 16), .pick (.t 12) (.t 15) (.c (.bool false)), none⟩,
  ⟨(some 2), .mov (.t 16), none⟩] none)
 (.ret))
theorem fn20 : env0.fn 20 = some ⟨17, ic20, [.t 2]⟩ := by kernel_rfl
def rgtB (n : Int) (es : List (Int × Int)) : Bool := decide (n ≤ 12) && decide (es.length ≤ 30) && (zdx n es == 0)
set_option maxHeartbeats 1000000 in
theorem zt8 (n : Int) (es : List (Int × Int)) : PF Try.prog 20 [cG n es] (.bool (rgtB n es)) := by
 have p35 := check35 n es
 have hcl := zcg es
 refine zb4 env0_ok fn20 [(0, .agg [.int .i64 n, .vs (cE es)])] (by show 1 ≤ 17; decide) rfl fun w0 N0 => ?_
 unfold ic20 rgtB
 refine za6 (za0 rfl (ze8 rfl rfl (za2 rfl (za5 (za3 ?_)))))
 refine zby [] [(0, 0, [.int .i64 n, .vs (cE es)])] [(1, .vptr [.int .i64 n, .vs (cE es)])] rfl (.cons rfl rfl .nil) .nil (.cons rfl (.fptr rfl rfl) .nil) ?_
 repeat (first | refine za6 ?_ | refine za0 rfl ?_ | refine zaf rfl rfl ?_ | refine zan rfl rfl rfl ?_)
 refine zau rfl rfl rfl (fun h => ?_) fun h => ?_
 ·rw [show decide (n ≤ 12) = true from h, Bool.true_and]
  repeat (first | refine zee rfl ?_ | refine za2 rfl ?_ | refine zaf rfl rfl ?_ | refine zan rfl rfl rfl ?_ | refine zbf rfl rfl ?_)
  refine zau rfl rfl rfl (fun h => ?_) fun h => ?_
  ·rw [show decide (es.length ≤ 30) = true from decide_eq_true (by have h : (((cE es).length : Nat) : Int) ≤ 30 := of_decide_eq_true h; omega), Bool.true_and]
   repeat (first | refine zee rfl ?_ | refine za2 rfl ?_ | refine zax rfl rfl rfl rfl ?_ | refine zbg rfl rfl ?_)
   refine zak rfl rfl p35 (fun h => Bool.noConfusion (show false = true from h)) ?_
   repeat (first | refine zee rfl ?_)
   refine zau rfl rfl rfl (fun h => ?_) fun h => ?_
   ·rw [show (zdx n es == 0) = true from h]
    repeat (first | refine za5 ?_ | refine za3 ?_ | refine zaq ?_ | refine za2 rfl ?_ | refine zbg rfl rfl ?_)
    exact zao ⟨.inr rfl, _, rfl, rfl⟩
   ·rw [show (zdx n es == 0) = false from h]
    repeat (first | refine za5 ?_ | refine za3 ?_ | refine zaq ?_ | refine za2 rfl ?_ | refine zbg rfl rfl ?_)
    exact zao ⟨.inr rfl, _, rfl, rfl⟩
  ·rw [show decide (es.length ≤ 30) = false from decide_eq_false (by have h : ¬ (((cE es).length : Nat) : Int) ≤ 30 := of_decide_eq_false h; omega), Bool.false_and]
   repeat (first | refine za5 ?_ | refine za3 ?_ | refine zaq ?_ | refine zq7 rfl rfl ?_ | refine za2 rfl ?_ | refine zbg rfl rfl ?_ | refine zas rfl rfl ?_)
   exact zao ⟨.inr rfl, _, rfl, rfl⟩
 ·rw [show decide (n ≤ 12) = false from h, Bool.false_and, Bool.false_and]
  repeat (first | refine za5 ?_ | refine za3 ?_ | refine zaq ?_ | refine zq7 rfl rfl ?_ | refine za2 rfl ?_ | refine zas rfl rfl ?_)
  exact zao ⟨.inr rfl, _, rfl, rfl⟩
theorem rgt_ok {n : Int} {es : List (Int × Int)} (h : rgtB n es = true) : ∃ (m : Nat) (E : List (Nat × Nat)), n = (m : Int) ∧ es = zal E ∧ m ≤ 12 ∧ E.length ≤ 30 ∧ zdx (m : Nat) (zal E) = 0 ∧ ∀ u v, (u, v) ∈ E → u < m ∧ v < m := by
 unfold rgtB at h
 rw [Bool.and_eq_true, Bool.and_eq_true, decide_eq_true_eq, decide_eq_true_eq, beq_iff_eq] at h
 obtain ⟨⟨h1, h2⟩, h3⟩ := h
 obtain ⟨m, E, rfl, rfl, hm, hl, hE, hb⟩ := zhe h3
 exact ⟨m, E, rfl, rfl, by omega, by omega, h3, hb⟩
end Go.Proofs.Ytoagikifehmlpaa
