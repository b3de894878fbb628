/-
  THE LAW's CALLEES: given, Distances.
-/
import Derived.Test.YtoagikifehmlpaaQF8
namespace Go.Proofs.Ytoagikifehmlpaa
open Go Go.Am
theorem zm7 {n v : Int} (h : zf5 n v = false) : 0 ≤ v ∧ v < n := by
 unfold zf5 at h
 rw [Bool.or_eq_false_iff, decide_eq_false_iff_not, decide_eq_false_iff_not] at h
 omega
theorem zkl {n : Int} {l : List Int} (h : zh3 n l = 0) : ∀ v ∈ l, 0 ≤ v ∧ v < n := by
 unfold zh3 at h
 split at h
 ·cases h
 ·rename_i ha
  intro v hv
  refine zm7 ?_
  cases hb : zf5 n v with
  | false => rfl
  | true => exact absurd (List.any_eq_true.2 ⟨v, hv, hb⟩) ha
theorem edgE_ok {n : Int} {es : List (Int × Int)} (h : zmg n es = 0) : ∀ e ∈ es, (0 ≤ e.1 ∧ e.1 < n) ∧ 0 ≤ e.2 ∧ e.2 < n := by
 unfold zmg at h
 split at h
 ·cases h
 ·rename_i ha
  intro e he
  have : (zf5 n e.1 || zf5 n e.2) = false := by
   cases hb : (zf5 n e.1 || zf5 n e.2) with
   | false => rfl
   | true => exact absurd (List.any_eq_true.2 ⟨e, he, hb⟩) ha
  rw [Bool.or_eq_false_iff] at this
  exact ⟨zm7 this.1, zm7 this.2⟩
theorem zhe {n : Int} {es : List (Int × Int)} (h : zdx n es = 0) : ∃ (m : Nat) (E : List (Nat × Nat)), n = (m : Int) ∧ es = zal E ∧ m ≤ 256 ∧ E.length = es.length ∧ E.length ≤ 4096 ∧ ∀ u v, (u, v) ∈ E → u < m ∧ v < m := by
 unfold zdx at h
 split at h
 ·cases h
 split at h
 ·cases h
 split at h
 ·cases h
 rename_i h0 h1 h2
 have hb := edgE_ok h
 refine ⟨n.toNat, es.map fun e => (e.1.toNat, e.2.toNat), by omega, ?_, by omega, List.length_map .., by rw [List.length_map]; omega, fun u v hm => ?_⟩
 ·unfold zal
  rw [List.map_map]
  refine (List.map_id _).symm.trans (List.map_congr_left fun e he => ?_)
  obtain ⟨⟨a, b⟩, c, d⟩ := hb e he
  show e = (((e.1.toNat : Nat) : Int), ((e.2.toNat : Nat) : Int))
  rw [Int.toNat_of_nonneg a, Int.toNat_of_nonneg c]
 ·obtain ⟨e, he, h3⟩ := List.mem_map.1 hm
  obtain ⟨⟨a, b⟩, c, d⟩ := hb e he
  injection h3 with h3 h4
  subst h3 h4
  omega
def givV (n : Int) (es : List (Int × Int)) (l : List Int) : AV := if zel n es l = 0 then .tup [cN (es.map fun e => (e.1.toNat, e.2.toNat)) n.toNat, .int .i64 0] else .tup [.vs [], .int .i64 (zel n es l)]
theorem zdp (E : List (Nat × Nat)) : ((zal E).map fun e => (e.1.toNat, e.2.toNat)) = E := by
 unfold zal
 rw [List.map_map]
 exact (List.map_congr_left fun e _ => rfl).trans (List.map_id _)
theorem zg4 {m : Nat} {E : List (Nat × Nat)} {l : List Int} (h : zel m (zal E) l = 0) : givV m (zal E) l = .tup [cN E m, .int .i64 0] := by
 unfold givV
 rw [if_pos h, zdp]
 rfl
theorem ze0 {n : Int} {es : List (Int × Int)} {l : List Int} (h : zel n es l ≠ 0) : givV n es l = .tup [.vs [], .int .i64 (zel n es l)] := if_neg h
-- pneumatic/digraph.given
def ic46 : IC := .seq (.region [⟨(some 2), .box (.t 0), none⟩,
  ⟨(some 4), .mov (.c (.nils)), none⟩,
  ⟨(some 5), .mov (.c (.int .i64 0)), none⟩] none)
 (.seq (.seq (.region [⟨(some 8), .load (some 2) (.t 2), none⟩,
  ⟨(some 9), .call (.c (.fn 34 [] [])) [(.t 8)], none⟩,
  ⟨(some 6), .mov (.t 9), none⟩] none)
 (.seq (.region [⟨(some 10), .mov (.t 6), none⟩,
  ⟨(some 11), .bin .neq (.t 10) (.c (.int .i64 0)), none⟩] none)
 (.cond (.t 11) (.seq (.region [⟨(some 12), .mov (.t 6), none⟩,
  ⟨(some 4), .mov (.c (.nils)), none⟩,
  ⟨(some 5), .mov (.t 12), none⟩] none)
 (.ret))
 (.skip))))
 (.seq (.seq (.region [⟨(some 13), .load (some 2) (.t 2), none⟩,
  ⟨(some 14), .mov (.t 1), none⟩,
  ⟨(some 15), .call (.c (.fn 56 [] [])) [(.t 13), (.t 14)], none⟩,
  ⟨(some 7), .mov (.t 15), none⟩] none)
 (.seq (.region [⟨(some 16), .mov (.t 7), none⟩,
  ⟨(some 17), .bin .neq (.t 16) (.c (.int .i64 0)), none⟩] none)
 (.cond (.t 17) (.seq (.region [⟨(some 18), .mov (.t 7), none⟩,
  ⟨(some 4), .mov (.c (.nils)), none⟩,
  ⟨(some 5), .mov (.t 18), none⟩] none)
 (.ret))
 (.skip))))
 (.seq (.region [⟨(some 19), .load (some 2) (.t 2), none⟩,
  ⟨(some 20), .call (.c (.fn 45 [] [])) [(.t 19)], none⟩,
  ⟨(some 4), .mov (.t 20), none⟩,
  ⟨(some 5), .mov (.c (.int .i64 0)), none⟩] none)
 (.ret))))
theorem fn46 : env0.fn 46 = some ⟨21, ic46, [.t 4, .t 5]⟩ := by kernel_rfl
set_option maxHeartbeats 1000000 in
theorem zhu (n : Int) (es : List (Int × Int)) (l : List Int) (hl : l.length ≤ 1000000) : PF Try.prog 46 [cG n es, vsI l] (givV n es l) := by
 have p34 := check34 n es
 have p56 := zoz n es l hl
 refine zb4 env0_ok fn46 [(0, .agg [.int .i64 n, .vs (cE es)]), (1, vsI l)] (by show 2 ≤ 21; decide) rfl fun w0 N0 => ?_
 unfold ic46
 refine za6 (za0 rfl (ze8 rfl rfl (za2 rfl (za2 rfl (za5 (za3 ?_))))))
 refine zby [] [(0, 0, [.int .i64 n, .vs (cE es)])] [(1, vsI l), (2, .vptr [.int .i64 n, .vs (cE es)])] rfl (.cons rfl rfl .nil) .nil (.cons rfl (.same rfl) (.cons rfl (.fptr rfl rfl) .nil)) ?_
 repeat (first | refine za6 ?_ | refine za0 rfl ?_ | refine zax rfl rfl rfl rfl ?_)
 refine zak rfl rfl p34 (fun h => Bool.noConfusion (show false = true from h)) ?_
 repeat (first | refine za6 ?_ | refine za0 rfl ?_ | refine za5 ?_ | refine za3 ?_ | refine za2 rfl ?_)
 refine zau rfl rfl rfl (fun h => ?_) fun h => ?_
 ·have h : ¬ zdx n es = 0 := by simpa using h
  have hg : zel n es l = zdx n es := if_neg h
  rw [ze0 (by rw [hg]; exact h), hg]
  repeat (first | refine za6 ?_ | refine za0 rfl ?_ | refine za5 ?_ | refine za3 ?_ | refine zcp rfl ?_ | refine zaq ?_ | refine zac ?_ | refine za2 rfl ?_)
  exact zao ⟨.inr rfl, _, rfl, rfl⟩
 have h : zdx n es = 0 := by simpa using h
 have hg : zel n es l = zh3 n l := if_pos h
 repeat (first | refine za6 ?_ | refine za0 rfl ?_ | refine za5 ?_ | refine za3 ?_ | refine zad ?_ | refine zce rfl ?_ | refine za2 rfl ?_ | refine zax rfl rfl rfl rfl ?_)
 refine zak rfl rfl p56 (fun h => Bool.noConfusion (show false = true from h)) ?_
 repeat (first | refine za6 ?_ | refine za0 rfl ?_ | refine za5 ?_ | refine za3 ?_ | refine za2 rfl ?_)
 refine zau rfl rfl rfl (fun h1 => ?_) fun h1 => ?_
 ·have h1 : ¬ zh3 n l = 0 := by simpa using h1
  rw [ze0 (by rw [hg]; exact h1), hg]
  repeat (first | refine za6 ?_ | refine za0 rfl ?_ | refine za5 ?_ | refine za3 ?_ | refine zcp rfl ?_ | refine zaq ?_ | refine zac ?_ | refine za2 rfl ?_)
  exact zao ⟨.inr rfl, _, rfl, rfl⟩
 have h1 : zh3 n l = 0 := by simpa using h1
 obtain ⟨m, E, rfl, rfl, hm, _, hE, hb⟩ := zhe h
 rw [zg4 (hg.trans h1)]
 have p45 := ze3 m hm E (by omega) hb
 repeat (first | refine za6 ?_ | refine za0 rfl ?_ | refine za5 ?_ | refine za3 ?_ | refine zad ?_ | refine zce rfl ?_ | refine zax rfl rfl rfl rfl ?_)
 refine zak rfl rfl p45 (fun h => Bool.noConfusion (show false = true from h)) ?_
 repeat (first | refine za5 ?_ | refine za3 ?_ | refine zaq ?_ | refine za2 rfl ?_)
 exact zao ⟨.inr rfl, _, rfl, rfl⟩
def disV (n : Int) (es : List (Int × Int)) (v : Int) : AV := if zel n es [v] = 0 then .tup [vsI (zcx (es.map fun e => (e.1.toNat, e.2.toNat)) n.toNat v.toNat n.toNat), .int .i64 0] else .tup [.vs [], .int .i64 (zel n es [v])]
theorem zre {m f : Nat} {E : List (Nat × Nat)} (h : zel m (zal E) [(f : Int)] = 0) : disV m (zal E) f = .tup [vsI (zcx E m f m), .int .i64 0] := by
 unfold disV
 rw [if_pos h, zdp]
 rfl
theorem disV_err {n : Int} {es : List (Int × Int)} {v : Int} (h : zel n es [v] ≠ 0) : disV n es v = .tup [.vs [], .int .i64 (zel n es [v])] := if_neg h
theorem zru {n : Int} {es : List (Int × Int)} {l : List Int} (h : zel n es l = 0) : zdx n es = 0 ∧ zh3 n l = 0 := by
 unfold zel at h
 split at h
 ·rename_i hc; exact ⟨hc, h⟩
 ·rename_i hc; exact absurd h hc
-- pneumatic/digraph.Distances
def ic22 : IC := .seq (.region [⟨(some 2), .box (.t 0), none⟩,
  ⟨(some 4), .mov (.c (.nils)), none⟩,
  ⟨(some 5), .mov (.c (.int .i64 0)), none⟩] none)
 (.seq (.region [⟨(some 9), .load (some 2) (.t 2), none⟩,
  ⟨(some 10), .mov (.t 1), none⟩,
  ⟨(some 11), .bslice 1 1 [.int .i64 0] [(0, 1, (.t 10))], none⟩,
  ⟨(some 12), .call (.c (.fn 46 [] [])) [(.t 9), (.t 11)], none⟩,
  ⟨(some 8), .mov (.t 12), none⟩,
  ⟨(some 13), .extract (.t 8) 0, none⟩,
  ⟨(some 14), .extract (.t 8) 1, none⟩,
  ⟨(some 6), .mov (.t 13), none⟩,
  ⟨(some 7), .mov (.t 14), none⟩] none)
 (.seq (.seq (.region [⟨(some 15), .mov (.t 7), none⟩,
  ⟨(some 16), .bin .neq (.t 15) (.c (.int .i64 0)), none⟩] none)
 (.cond (.t 16) (.seq (.region [⟨(some 17), .mov (.t 7), none⟩,
  ⟨(some 4), .mov (.c (.nils)), none⟩,
  ⟨(some 5), .mov (.t 17), none⟩] none)
 (.ret))
 (.skip)))
 (.seq (.region [⟨(some 18), .mov (.t 6), none⟩,
  ⟨(some 19), .mov (.t 1), none⟩,
  ⟨(some 20), .call (.c (.fn 48 [] [])) [(.t 18), (.t 19)], none⟩,
  ⟨(some 4), .mov (.t 20), none⟩,
  ⟨(some 5), .mov (.c (.int .i64 0)), none⟩] none)
 (.ret))))
theorem fn22 : env0.fn 22 = some ⟨21, ic22, [.t 4, .t 5]⟩ := by kernel_rfl
set_option maxHeartbeats 1000000 in
theorem zme (n : Int) (es : List (Int × Int)) (hn : zdx n es = 0 → n ≤ 12) (v : Int) : PF Try.prog 22 [cG n es, .int .i64 v] (disV n es v) := by
 have p46 := zhu n es [v] (by simp)
 refine zb4 env0_ok fn22 [(0, .agg [.int .i64 n, .vs (cE es)]), (1, .int .i64 v)] (by show 2 ≤ 21; decide) rfl fun w0 N0 => ?_
 unfold ic22
 refine za6 (za0 rfl (ze8 rfl rfl (za2 rfl (za2 rfl (za5 (za3 ?_))))))
 refine zby [] [(0, 0, [.int .i64 n, .vs (cE es)])] [(1, .int .i64 v), (2, .vptr [.int .i64 n, .vs (cE es)])] rfl (.cons rfl rfl .nil) .nil (.cons rfl (.same rfl) (.cons rfl (.fptr rfl rfl) .nil)) ?_
 repeat (first | refine za6 ?_ | refine za0 rfl ?_ | refine za2 rfl ?_ | refine zax rfl rfl rfl rfl ?_)
 refine o_fsl [[.int .i64 v]] rfl rfl rfl rfl ?_
 refine zak rfl rfl p46 (fun h => Bool.noConfusion (show false = true from h)) ?_
 by_cases hg : zel n es [v] = 0
 ·obtain ⟨hc, hv⟩ := zru hg
  obtain ⟨v0, v1⟩ := zkl hv v (by simp)
  have hn := hn hc
  obtain ⟨m, E, rfl, rfl, hm, _, hE, hb⟩ := zhe hc
  obtain ⟨f, rfl⟩ := Int.eq_ofNat_of_zero_le v0
  rw [zg4 hg, zre hg]
  have p48 := far48 m (by omega) E hb f (by omega)
  repeat (first | refine za6 ?_ | refine za0 rfl ?_ | refine za5 ?_ | refine za3 ?_ | refine zad ?_ | refine zce rfl ?_ | refine za2 rfl ?_ | refine zav rfl rfl ?_ | refine zc0 rfl rfl rfl ?_)
  refine zak rfl rfl p48 (fun h => Bool.noConfusion (show false = true from h)) ?_
  repeat (first | refine za5 ?_ | refine za3 ?_ | refine zaq ?_ | refine za2 rfl ?_)
  exact zao ⟨.inr rfl, _, rfl, rfl⟩
 ·rw [ze0 hg, disV_err hg]
  repeat (first | refine za6 ?_ | refine za0 rfl ?_ | refine za5 ?_ | refine za3 ?_ | refine za2 rfl ?_ | refine zav rfl rfl ?_)
  refine zau rfl rfl rfl (fun h => ?_) fun h => absurd (by simpa using h) hg
  repeat (first | refine za6 ?_ | refine za0 rfl ?_ | refine za5 ?_ | refine za3 ?_ | refine zcp rfl ?_ | refine zaq ?_ | refine zac ?_ | refine za2 rfl ?_)
  exact zao ⟨.inr rfl, _, rfl, rfl⟩
end Go.Proofs.Ytoagikifehmlpaa
