/-
  THE LAW's CALLEES: given, Distances.
-/
import Derived.Test.YtoagikifehmlpaaDF8
namespace Go.Proofs.Ytoagikifehmlpaa
open Go Go.Am
theorem zla {n v : Int} (h : zeu n v = false) : 0 ≤ v ∧ v < n := by
 unfold zeu at h
 rw [Bool.or_eq_false_iff, decide_eq_false_iff_not, decide_eq_false_iff_not] at h
 omega
theorem zjq {n : Int} {l : List Int} (h : zhl n l = 0) : ∀ v ∈ l, 0 ≤ v ∧ v < n := by
 unfold zhl at h
 split at h
 ·cases h
 ·rename_i ha
  intro v hv
  refine zla ?_
  cases hb : zeu n v with
  | false => rfl
  | true => exact absurd (List.any_eq_true.2 ⟨v, hv, hb⟩) ha
theorem edgE_ok {n : Int} {es : List (Int × Int)} (h : zlh n es = 0) : ∀ e ∈ es, (0 ≤ e.1 ∧ e.1 < n) ∧ 0 ≤ e.2 ∧ e.2 < n := by
 unfold zlh at h
 split at h
 ·cases h
 ·rename_i ha
  intro e he
  have : (zeu n e.1 || zeu n e.2) = false := by
   cases hb : (zeu n e.1 || zeu n e.2) with
   | false => rfl
   | true => exact absurd (List.any_eq_true.2 ⟨e, he, hb⟩) ha
  rw [Bool.or_eq_false_iff] at this
  exact ⟨zla this.1, zla this.2⟩
theorem zk7 {n : Int} {es : List (Int × Int)} (h : zel n es = 0) : ∃ (m : Nat) (E : List (Nat × Nat)), n = (m : Int) ∧ es = zb8 E ∧ m ≤ 256 ∧ E.length = es.length ∧ E.length ≤ 4096 ∧ ∀ u v, (u, v) ∈ E → u < m ∧ v < m := by
 unfold zel at h
 split at h
 ·cases h
 split at h
 ·cases h
 split at h
 ·cases h
 rename_i h0 h1 h2
 have hb := edgE_ok h
 refine ⟨n.toNat, es.map fun e => (e.1.toNat, e.2.toNat), by omega, ?_, by omega, List.length_map .., by rw [List.length_map]; omega, fun u v hm => ?_⟩
 ·unfold zb8
  rw [List.map_map]
  refine (List.map_id _).symm.trans (List.map_congr_left fun e he => ?_)
  obtain ⟨⟨a, b⟩, c, d⟩ := hb e he
  show e = (((e.1.toNat : Nat) : Int), ((e.2.toNat : Nat) : Int))
  rw [Int.toNat_of_nonneg a, Int.toNat_of_nonneg c]
 ·obtain ⟨e, he, h3⟩ := List.mem_map.1 hm
  obtain ⟨⟨a, b⟩, c, d⟩ := hb e he
  injection h3 with h3 h4
  subst h3 h4
  omega
def givV (n : Int) (es : List (Int × Int)) (l : List Int) : AV := if zfw n es l = 0 then .tup [cN (es.map fun e => (e.1.toNat, e.2.toNat)) n.toNat, .int .i64 0] else .tup [.vs [], .int .i64 (zfw n es l)]
theorem zgl (E : List (Nat × Nat)) : ((zb8 E).map fun e => (e.1.toNat, e.2.toNat)) = E := by
 unfold zb8
 rw [List.map_map]
 exact (List.map_congr_left fun e _ => rfl).trans (List.map_id _)
theorem zll {m : Nat} {E : List (Nat × Nat)} {l : List Int} (h : zfw m (zb8 E) l = 0) : givV m (zb8 E) l = .tup [cN E m, .int .i64 0] := by
 unfold givV
 rw [if_pos h, zgl]
 rfl
theorem zg4 {n : Int} {es : List (Int × Int)} {l : List Int} (h : zfw n es l ≠ 0) : givV n es l = .tup [.vs [], .int .i64 (zfw n es l)] := if_neg h
-- pneumatic/digraph.given
def ic46 : IC := .seq (.region [⟨(some 2), .box (.t 0), none⟩,
  ⟨(some 4), .mov (.c (.nils)), none⟩,
  ⟨(some 5), .mov (.c (.int .i64 0)), none⟩] none)
 (.seq (.seq (.region [⟨(some 8), .load (some 2) (.t 2), none⟩,
  ⟨(some 9), .call (.c (.fn 34 [] [])) [(.t 8)], none⟩,
  ⟨(some 6), .mov (.t 9), none⟩] none)
 (.seq (.region [⟨(some 10), .mov (.t 6), none⟩,
  ⟨(some 11), .bin .neq (.t 10) (.c (.int .i64 0)), none⟩] none)
 (.cond (.t 11) (.seq (.region [⟨(some 12), .mov (.t 6), none⟩,
  ⟨(some 4), .mov (.c (.nils)), none⟩,
  ⟨(some 5), .mov (.t 12), none⟩] none)
 (.ret))
 (.skip))))
 (.seq (.seq (.region [⟨(some 13), .load (some 2) (.t 2), none⟩,
  ⟨(some 14), .mov (.t 1), none⟩,
  ⟨(some 15), .call (.c (.fn 56 [] [])) [(.t 13), (.t 14)], none⟩,
  ⟨(some 7), .mov (.t 15), none⟩] none)
 (.seq (.region [⟨(some 16), .mov (.t 7), none⟩,
  ⟨(some 17), .bin .neq (.t 16) (.c (.int .i64 0)), none⟩] none)
 (.cond (.t 17) (.seq (.region [⟨(some 18), .mov (.t 7), none⟩,
  ⟨(some 4), .mov (.c (.nils)), none⟩,
  ⟨(some 5), .mov (.t 18), none⟩] none)
 (.ret))
 (.skip))))
 (.seq (.region [⟨(some 19), .load (some 2) (.t 2), none⟩,
  ⟨(some 20), .call (.c (.fn 45 [] [])) [(.t 19)], none⟩,
  ⟨(some 4), .mov (.t 20), none⟩,
  ⟨(some 5), .mov (.c (.int .i64 0)), none⟩] none)
 (.ret))))
theorem fn46 : env0.fn 46 = some ⟨21, ic46, [.t 4, .t 5]⟩ := by kernel_rfl
set_option maxHeartbeats 1000000 in
theorem zqe (n : Int) (es : List (Int × Int)) (l : List Int) (hl : l.length ≤ 1000000) : PF Try.prog 46 [cG n es, vsI l] (givV n es l) := by
 have p34 := zpl n es
 have p56 := zno n es l hl
 refine zbk env0_ok fn46 [(0, .agg [.int .i64 n, .vs (cE es)]), (1, vsI l)] (by show 2 ≤ 21; decide) rfl fun w0 N0 => ?_
 unfold ic46
 refine za7 (za0 rfl (zeo rfl rfl (za3 rfl (za3 rfl (za5 (za4 ?_))))))
 refine zc5 [] [(0, 0, [.int .i64 n, .vs (cE es)])] [(1, vsI l), (2, .vptr [.int .i64 n, .vs (cE es)])] rfl (.cons rfl rfl .nil) .nil (.cons rfl (.same rfl) (.cons rfl (.fptr rfl rfl) .nil)) ?_
 repeat (first | refine za7 ?_ | refine za0 rfl ?_ | refine zat rfl rfl rfl rfl ?_)
 refine zaw rfl rfl p34 (fun h => Bool.noConfusion (show false = true from h)) ?_
 repeat (first | refine za7 ?_ | refine za0 rfl ?_ | refine za5 ?_ | refine za4 ?_ | refine za3 rfl ?_)
 refine zax rfl rfl rfl (fun h => ?_) fun h => ?_
 ·have h : ¬ zel n es = 0 := by simpa using h
  have hg : zfw n es l = zel n es := if_neg h
  rw [zg4 (by rw [hg]; exact h), hg]
  repeat (first | refine za7 ?_ | refine za0 rfl ?_ | refine za5 ?_ | refine za4 ?_ | refine zdu rfl ?_ | refine zau ?_ | refine zah ?_ | refine za3 rfl ?_)
  exact zar ⟨.inr rfl, _, rfl, rfl⟩
 have h : zel n es = 0 := by simpa using h
 have hg : zfw n es l = zhl n l := if_pos h
 repeat (first | refine za7 ?_ | refine za0 rfl ?_ | refine za5 ?_ | refine za4 ?_ | refine zao ?_ | refine zdw rfl ?_ | refine za3 rfl ?_ | refine zat rfl rfl rfl rfl ?_)
 refine zaw rfl rfl p56 (fun h => Bool.noConfusion (show false = true from h)) ?_
 repeat (first | refine za7 ?_ | refine za0 rfl ?_ | refine za5 ?_ | refine za4 ?_ | refine za3 rfl ?_)
 refine zax rfl rfl rfl (fun h1 => ?_) fun h1 => ?_
 ·have h1 : ¬ zhl n l = 0 := by simpa using h1
  rw [zg4 (by rw [hg]; exact h1), hg]
  repeat (first | refine za7 ?_ | refine za0 rfl ?_ | refine za5 ?_ | refine za4 ?_ | refine zdu rfl ?_ | refine zau ?_ | refine zah ?_ | refine za3 rfl ?_)
  exact zar ⟨.inr rfl, _, rfl, rfl⟩
 have h1 : zhl n l = 0 := by simpa using h1
 obtain ⟨m, E, rfl, rfl, hm, _, hE, hb⟩ := zk7 h
 rw [zll (hg.trans h1)]
 have p45 := zf7 m hm E (by omega) hb
 repeat (first | refine za7 ?_ | refine za0 rfl ?_ | refine za5 ?_ | refine za4 ?_ | refine zao ?_ | refine zdw rfl ?_ | refine zat rfl rfl rfl rfl ?_)
 refine zaw rfl rfl p45 (fun h => Bool.noConfusion (show false = true from h)) ?_
 repeat (first | refine za5 ?_ | refine za4 ?_ | refine zau ?_ | refine za3 rfl ?_)
 exact zar ⟨.inr rfl, _, rfl, rfl⟩
def disV (n : Int) (es : List (Int × Int)) (v : Int) : AV := if zfw n es [v] = 0 then .tup [vsI (zhq (es.map fun e => (e.1.toNat, e.2.toNat)) n.toNat v.toNat n.toNat), .int .i64 0] else .tup [.vs [], .int .i64 (zfw n es [v])]
theorem zpx {m f : Nat} {E : List (Nat × Nat)} (h : zfw m (zb8 E) [(f : Int)] = 0) : disV m (zb8 E) f = .tup [vsI (zhq E m f m), .int .i64 0] := by
 unfold disV
 rw [if_pos h, zgl]
 rfl
theorem zmx {n : Int} {es : List (Int × Int)} {v : Int} (h : zfw n es [v] ≠ 0) : disV n es v = .tup [.vs [], .int .i64 (zfw n es [v])] := if_neg h
theorem zhz {n : Int} {es : List (Int × Int)} {l : List Int} (h : zfw n es l = 0) : zel n es = 0 ∧ zhl n l = 0 := by
 unfold zfw at h
 split at h
 ·rename_i hc; exact ⟨hc, h⟩
 ·rename_i hc; exact absurd h hc
-- pneumatic/digraph.Distances
def ic22 : IC := .seq (.region [⟨(some 2), .box (.t 0), none⟩,
  ⟨(some 4), .mov (.c (.nils)), none⟩,
  ⟨(some 5), .mov (.c (.int .i64 0)), none⟩] none)
 (.seq (.region [⟨(some 9), .load (some 2) (.t 2), none⟩,
  ⟨(some 10), .mov (.t 1), none⟩,
  ⟨(some 11), .bslice 1 1 [.int .i64 0] [(0, 1, (.t 10))], none⟩,
  ⟨(some 12), .call (.c (.fn 46 [] [])) [(.t 9), (.t 11)], none⟩,
  ⟨(some 8), .mov (.t 12), none⟩,
  ⟨(some 13), .extract (.t 8) 0, none⟩,
  ⟨(some 14), .extract (.t 8) 1, none⟩,
  ⟨(some 6), .mov (.t 13), none⟩,
  ⟨(some 7), .mov (.t 14), none⟩] none)
 (.seq (.seq (.region [⟨(some 15), .mov (.t 7), none⟩,
  ⟨(some 16), .bin .neq (.t 15) (.c (.int .i64 0)), none⟩] none)
 (.cond (.t 16) (.seq (.region [⟨(some 17), .mov (.t 7), none⟩,
  ⟨(some 4), .mov (.c (.nils)), none⟩,
  ⟨(some 5), .mov (.t 17), none⟩] none)
 (.ret))
 (.skip)))
 (.seq (.region [⟨(some 18), .mov (.t 6), none⟩,
  ⟨(some 19), .mov (.t 1), none⟩,
  ⟨(some 20), .call (.c (.fn 48 [] [])) [(.t 18), (.t 19)], none⟩,
  ⟨(some 4), .mov (.t 20), none⟩,
  ⟨(some 5), .mov (.c (.int .i64 0)), none⟩] none)
 (.ret))))
theorem fn22 : env0.fn 22 = some ⟨21, ic22, [.t 4, .t 5]⟩ := by kernel_rfl
set_option maxHeartbeats 1000000 in
theorem zlf (n : Int) (es : List (Int × Int)) (hn : zel n es = 0 → n ≤ 12) (v : Int) : PF Try.prog 22 [cG n es, .int .i64 v] (disV n es v) := by
 have p46 := zqe n es [v] (by simp)
 refine zbk env0_ok fn22 [(0, .agg [.int .i64 n, .vs (cE es)]), (1, .int .i64 v)] (by show 2 ≤ 21; decide) rfl fun w0 N0 => ?_
 unfold ic22
 refine za7 (za0 rfl (zeo rfl rfl (za3 rfl (za3 rfl (za5 (za4 ?_))))))
 refine zc5 [] [(0, 0, [.int .i64 n, .vs (cE es)])] [(1, .int .i64 v), (2, .vptr [.int .i64 n, .vs (cE es)])] rfl (.cons rfl rfl .nil) .nil (.cons rfl (.same rfl) (.cons rfl (.fptr rfl rfl) .nil)) ?_
 repeat (first | refine za7 ?_ | refine za0 rfl ?_ | refine za3 rfl ?_ | refine zat rfl rfl rfl rfl ?_)
 refine o_fsl [[.int .i64 v]] rfl rfl rfl rfl ?_
 refine zaw rfl rfl p46 (fun h => Bool.noConfusion (show false = true from h)) ?_
 by_cases hg : zfw n es [v] = 0
 ·obtain ⟨hc, hv⟩ := zhz hg
  obtain ⟨v0, v1⟩ := zjq hv v (by simp)
  have hn := hn hc
  obtain ⟨m, E, rfl, rfl, hm, _, hE, hb⟩ := zk7 hc
  obtain ⟨f, rfl⟩ := Int.eq_ofNat_of_zero_le v0
  rw [zll hg, zpx hg]
  have p48 := far48 m (by omega) E hb f (by omega)
  repeat (first | refine za7 ?_ | refine za0 rfl ?_ | refine za5 ?_ | refine za4 ?_ | refine zao ?_ | refine zdw rfl ?_ | refine za3 rfl ?_ | refine zcg rfl rfl ?_ | refine zfb rfl rfl rfl ?_)
  refine zaw rfl rfl p48 (fun h => Bool.noConfusion (show false = true from h)) ?_
  repeat (first | refine za5 ?_ | refine za4 ?_ | refine zau ?_ | refine za3 rfl ?_)
  exact zar ⟨.inr rfl, _, rfl, rfl⟩
 ·rw [zg4 hg, zmx hg]
  repeat (first | refine za7 ?_ | refine za0 rfl ?_ | refine za5 ?_ | refine za4 ?_ | refine za3 rfl ?_ | refine zcg rfl rfl ?_)
  refine zax rfl rfl rfl (fun h => ?_) fun h => absurd (by simpa using h) hg
  repeat (first | refine za7 ?_ | refine za0 rfl ?_ | refine za5 ?_ | refine za4 ?_ | refine zdu rfl ?_ | refine zau ?_ | refine zah ?_ | refine za3 rfl ?_)
  exact zar ⟨.inr rfl, _, rfl, rfl⟩
-- pneumatic/pneumaticref10.Distances
def ic33 : IC := .seq (.region [⟨(some 2), .box (.t 0), none⟩,
  ⟨(some 4), .mov (.c (.nils)), none⟩,
  ⟨(some 5), .mov (.c (.int .i64 0)), none⟩] none)
 (.seq (.seq (.region [⟨(some 7), .load (some 2) (.t 2), none⟩,
  ⟨(some 8), .mov (.t 1), none⟩,
  ⟨(some 9), .call (.c (.fn 52 [] [])) [(.t 7), (.t 8)], none⟩,
  ⟨(some 6), .mov (.t 9), none⟩] none)
 (.seq (.region [⟨(some 10), .mov (.t 6), none⟩,
  ⟨(some 11), .bin .neq (.t 10) (.c (.int .i64 0)), none⟩] none)
 (.cond (.t 11) (.seq (.region [⟨(some 12), .mov (.t 6), none⟩,
  ⟨(some 4), .mov (.c (.nils)), none⟩,
  ⟨(some 5), .mov (.t 12), none⟩] none)
 (.ret))
 (.skip))))
 (.seq (.region [⟨(some 13), .load (some 2) (.t 2), none⟩,
  ⟨(some 14), .mov (.t 1), none⟩,
  ⟨(some 15), .call (.c (.fn 54 [] [])) [(.t 13), (.t 14)], none⟩,
  ⟨(some 4), .mov (.t 15), none⟩,
  ⟨(some 5), .mov (.c (.int .i64 0)), none⟩] none)
 (.ret)))
theorem fn33 : env0.fn 33 = some ⟨16, ic33, [.t 4, .t 5]⟩ := by kernel_rfl
set_option maxHeartbeats 1000000 in
theorem zlg (n : Int) (es : List (Int × Int)) (v : Int) : PF Try.prog 33 [cG n es, .int .i64 v] (disV n es v) := by
 have p52 := zqf n es v
 refine zbk env0_ok fn33 [(0, .agg [.int .i64 n, .vs (cE es)]), (1, .int .i64 v)] (by show 2 ≤ 16; decide) rfl fun w0 N0 => ?_
 unfold ic33
 refine za7 (za0 rfl (zeo rfl rfl (za3 rfl (za3 rfl (za5 (za4 ?_))))))
 refine zc5 [] [(0, 0, [.int .i64 n, .vs (cE es)])] [(1, .int .i64 v), (2, .vptr [.int .i64 n, .vs (cE es)])] rfl (.cons rfl rfl .nil) .nil (.cons rfl (.same rfl) (.cons rfl (.fptr rfl rfl) .nil)) ?_
 repeat (first | refine za7 ?_ | refine za0 rfl ?_ | refine za3 rfl ?_ | refine zat rfl rfl rfl rfl ?_)
 refine zaw rfl rfl p52 (fun h => Bool.noConfusion (show false = true from h)) ?_
 repeat (first | refine za7 ?_ | refine za0 rfl ?_ | refine za5 ?_ | refine za4 ?_ | refine za3 rfl ?_)
 by_cases hg : zfw n es [v] = 0
 ·obtain ⟨hc, hv⟩ := zhz hg
  obtain ⟨v0, v1⟩ := zjq hv v (by simp)
  obtain ⟨m, E, rfl, rfl, hm, _, hE, hb⟩ := zk7 hc
  obtain ⟨f, rfl⟩ := Int.eq_ofNat_of_zero_le v0
  rw [zpx hg, hg]
  have p54 := far54 m hm E (by omega) hb f (by omega)
  repeat (first | refine za7 ?_ | refine za0 rfl ?_ | refine za5 ?_ | refine za4 ?_ | refine zao ?_ | refine zdw rfl ?_ | refine za3 rfl ?_ | refine zat rfl rfl rfl rfl ?_ | refine zfb rfl rfl rfl ?_)
  refine zaw rfl rfl p54 (fun h => Bool.noConfusion (show false = true from h)) ?_
  repeat (first | refine za5 ?_ | refine za4 ?_ | refine zau ?_ | refine za3 rfl ?_)
  exact zar ⟨.inr rfl, _, rfl, rfl⟩
 ·rw [zmx hg]
  refine zax rfl rfl rfl (fun h => ?_) fun h => absurd (by simpa using h) hg
  repeat (first | refine za7 ?_ | refine za0 rfl ?_ | refine za5 ?_ | refine za4 ?_ | refine zdu rfl ?_ | refine zau ?_ | refine zah ?_ | refine za3 rfl ?_)
  exact zar ⟨.inr rfl, _, rfl, rfl⟩
end Go.Proofs.Ytoagikifehmlpaa
