/-
  THE LAW's CALLEES: given, Distances.
-/
import Derived.Test.YtoagikifehmlpaaFF8
namespace Go.Proofs.Ytoagikifehmlpaa
open Go Go.Am
theorem zr2 {n v : Int} (h : zg6 n v = false) : 0 ≤ v ∧ v < n := by
 unfold zg6 at h
 rw [Bool.or_eq_false_iff, decide_eq_false_iff_not, decide_eq_false_iff_not] at h
 omega
theorem edgE_ok {n : Int} {es : List (Int × Int)} (h : zmn n es = 0) : ∀ e ∈ es, (0 ≤ e.1 ∧ e.1 < n) ∧ 0 ≤ e.2 ∧ e.2 < n := by
 unfold zmn at h
 split at h
 ·cases h
 ·rename_i ha
  intro e he
  have : (zg6 n e.1 || zg6 n e.2) = false := by
   cases hb : (zg6 n e.1 || zg6 n e.2) with
   | false => rfl
   | true => exact absurd (List.any_eq_true.2 ⟨e, he, hb⟩) ha
  rw [Bool.or_eq_false_iff] at this
  exact ⟨zr2 this.1, zr2 this.2⟩
theorem zf5 {n : Int} {es : List (Int × Int)} (h : zd7 n es = 0) : ∃ (m : Nat) (E : List (Nat × Nat)), n = (m : Int) ∧ es = zai E ∧ m ≤ 256 ∧ E.length = es.length ∧ E.length ≤ 4096 ∧ ∀ u v, (u, v) ∈ E → u < m ∧ v < m := by
 unfold zd7 at h
 split at h
 ·cases h
 split at h
 ·cases h
 split at h
 ·cases h
 rename_i h0 h1 h2
 have hb := edgE_ok h
 refine ⟨n.toNat, es.map fun e => (e.1.toNat, e.2.toNat), by omega, ?_, by omega, List.length_map .., by rw [List.length_map]; omega, fun u v hm => ?_⟩
 ·unfold zai
  rw [List.map_map]
  refine (List.map_id _).symm.trans (List.map_congr_left fun e he => ?_)
  obtain ⟨⟨a, b⟩, c, d⟩ := hb e he
  show e = (((e.1.toNat : Nat) : Int), ((e.2.toNat : Nat) : Int))
  rw [Int.toNat_of_nonneg a, Int.toNat_of_nonneg c]
 ·obtain ⟨e, he, h3⟩ := List.mem_map.1 hm
  obtain ⟨⟨a, b⟩, c, d⟩ := hb e he
  injection h3 with h3 h4
  subst h3 h4
  omega
def givV (n : Int) (es : List (Int × Int)) (l : List Int) : AV := if zqd n es l = 0 then .tup [cN (es.map fun e => (e.1.toNat, e.2.toNat)) n.toNat, .int .i64 0] else .tup [.vs [], .int .i64 (zqd n es l)]
theorem zfp (E : List (Nat × Nat)) : ((zai E).map fun e => (e.1.toNat, e.2.toNat)) = E := by
 unfold zai
 rw [List.map_map]
 exact (List.map_congr_left fun e _ => rfl).trans (List.map_id _)
theorem zjs {m : Nat} {E : List (Nat × Nat)} {l : List Int} (h : zqd m (zai E) l = 0) : givV m (zai E) l = .tup [cN E m, .int .i64 0] := by
 unfold givV
 rw [if_pos h, zfp]
 rfl
theorem zfu {n : Int} {es : List (Int × Int)} {l : List Int} (h : zqd n es l ≠ 0) : givV n es l = .tup [.vs [], .int .i64 (zqd n es l)] := if_neg h
-- pneumatic/digraph.given
def ic46 : IC := .seq (.region [⟨(some 2), .box (.t 0), none⟩,
  ⟨(some 4), .mov (.c (.nils)), none⟩,
  ⟨(some 5), .mov (.c (.int .i64 0)), none⟩] none)
 (.seq (.seq (.region [⟨(some 8), .load (some 2) (.t 2), none⟩,
  ⟨(some 9), .call (.c (.fn 34 [] [])) [(.t 8)], none⟩,
  ⟨(some 6), .mov (.t 9), none⟩] none)
 (.seq (.region [⟨(some 10), .mov (.t 6), none⟩,
  ⟨(some 11), .bin .neq (.t 10) (.c (.int .i64 0)), none⟩] none)
 (.cond (.t 11) (.seq (.region [⟨(some 12), .mov (.t 6), none⟩,
  ⟨(some 4), .mov (.c (.nils)), none⟩,
  ⟨(some 5), .mov (.t 12), none⟩] none)
 (.ret))
 (.skip))))
 (.seq (.seq (.region [⟨(some 13), .load (some 2) (.t 2), none⟩,
  ⟨(some 14), .mov (.t 1), none⟩,
  ⟨(some 15), .call (.c (.fn 56 [] [])) [(.t 13), (.t 14)], none⟩,
  ⟨(some 7), .mov (.t 15), none⟩] none)
 (.seq (.region [⟨(some 16), .mov (.t 7), none⟩,
  ⟨(some 17), .bin .neq (.t 16) (.c (.int .i64 0)), none⟩] none)
 (.cond (.t 17) (.seq (.region [⟨(some 18), .mov (.t 7), none⟩,
  ⟨(some 4), .mov (.c (.nils)), none⟩,
  ⟨(some 5), .mov (.t 18), none⟩] none)
 (.ret))
 (.skip))))
 (.seq (.region [⟨(some 19), .load (some 2) (.t 2), none⟩,
  ⟨(some 20), .call (.c (.fn 45 [] [])) [(.t 19)], none⟩,
  ⟨(some 4), .mov (.t 20), none⟩,
  ⟨(some 5), .mov (.c (.int .i64 0)), none⟩] none)
 (.ret))))
theorem fn46 : env0.fn 46 = some ⟨21, ic46, [.t 4, .t 5]⟩ := by kernel_rfl
set_option maxHeartbeats 1000000 in
theorem zmt (n : Int) (es : List (Int × Int)) (l : List Int) (hl : l.length ≤ 1000000) : PF Try.prog 46 [cG n es, vsI l] (givV n es l) := by
 have p34 := check34 n es
 have p56 := zp8 n es l hl
 refine zav env0_ok fn46 [(0, .agg [.int .i64 n, .vs (cE es)]), (1, vsI l)] (by show 2 ≤ 21; decide) rfl fun w0 N0 => ?_
 unfold ic46
 refine za5 (za0 rfl (zd3 rfl rfl (za1 rfl (za1 rfl (za3 (za2 ?_))))))
 refine zbf [] [(0, 0, [.int .i64 n, .vs (cE es)])] [(1, vsI l), (2, .vptr [.int .i64 n, .vs (cE es)])] rfl (.cons rfl rfl .nil) .nil (.cons rfl (.same rfl) (.cons rfl (.fptr rfl rfl) .nil)) ?_
 repeat (first | refine za5 ?_ | refine za0 rfl ?_ | refine zaq rfl rfl rfl rfl ?_)
 refine zas rfl rfl p34 (fun h => Bool.noConfusion (show false = true from h)) ?_
 repeat (first | refine za5 ?_ | refine za0 rfl ?_ | refine za3 ?_ | refine za2 ?_ | refine za1 rfl ?_)
 refine zam rfl rfl rfl (fun h => ?_) fun h => ?_
 ·have h : ¬ zd7 n es = 0 := by simpa using h
  have hg : zqd n es l = zd7 n es := if_neg h
  rw [zfu (by rw [hg]; exact h), hg]
  repeat (first | refine za5 ?_ | refine za0 rfl ?_ | refine za3 ?_ | refine za2 ?_ | refine zbt rfl ?_ | refine zat ?_ | refine zag ?_ | refine za1 rfl ?_)
  exact zao ⟨.inr rfl, _, rfl, rfl⟩
 have h : zd7 n es = 0 := by simpa using h
 have hg : zqd n es l = zkr n l := if_pos h
 repeat (first | refine za5 ?_ | refine za0 rfl ?_ | refine za3 ?_ | refine za2 ?_ | refine zad ?_ | refine zbm rfl ?_ | refine za1 rfl ?_ | refine zaq rfl rfl rfl rfl ?_)
 refine zas rfl rfl p56 (fun h => Bool.noConfusion (show false = true from h)) ?_
 repeat (first | refine za5 ?_ | refine za0 rfl ?_ | refine za3 ?_ | refine za2 ?_ | refine za1 rfl ?_)
 refine zam rfl rfl rfl (fun h1 => ?_) fun h1 => ?_
 ·have h1 : ¬ zkr n l = 0 := by simpa using h1
  rw [zfu (by rw [hg]; exact h1), hg]
  repeat (first | refine za5 ?_ | refine za0 rfl ?_ | refine za3 ?_ | refine za2 ?_ | refine zbt rfl ?_ | refine zat ?_ | refine zag ?_ | refine za1 rfl ?_)
  exact zao ⟨.inr rfl, _, rfl, rfl⟩
 have h1 : zkr n l = 0 := by simpa using h1
 obtain ⟨m, E, rfl, rfl, hm, _, hE, hb⟩ := zf5 h
 rw [zjs (hg.trans h1)]
 have p45 := zex m hm E (by omega) hb
 repeat (first | refine za5 ?_ | refine za0 rfl ?_ | refine za3 ?_ | refine za2 ?_ | refine zad ?_ | refine zbm rfl ?_ | refine zaq rfl rfl rfl rfl ?_)
 refine zas rfl rfl p45 (fun h => Bool.noConfusion (show false = true from h)) ?_
 repeat (first | refine za3 ?_ | refine za2 ?_ | refine zat ?_ | refine za1 rfl ?_)
 exact zao ⟨.inr rfl, _, rfl, rfl⟩
end Go.Proofs.Ytoagikifehmlpaa
