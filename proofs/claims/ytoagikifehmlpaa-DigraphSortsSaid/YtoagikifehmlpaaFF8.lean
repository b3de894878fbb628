/-
  THE REFERENCE's DISTANCES: Far walked.
-/
import Derived.Test.YtoagikifehmlpaaFF7
import Derived.Test.YtoagikifehmlpaaFF2
import Derived.Test.YtoagikifehmlpaaFF5
namespace Go.Proofs.Ytoagikifehmlpaa
open Go Go.Am
def b54_0 : IC := .seq (.seq (.region [⟨(some 13), .mov (.t 6), none⟩,
  ⟨(some 14), .faddr 0 (.t 2), none⟩,
  ⟨(some 15), .load none (.t 14), none⟩,
  ⟨(some 16), .bin .lss (.t 13) (.t 15), none⟩] none)
 (.cond (.t 16) (.skip)
 (.exit 0)))
 (.seq (.block 1 (.region [⟨(some 19), .mov (.t 5), none⟩,
  ⟨(some 20), .mov (.t 6), none⟩,
  ⟨(some 21), .idxs 1 (.t 19) (.t 20), none⟩,
  ⟨none, .store 1 (.t 21) (.c (.int .i64 (-1))), none⟩] none))
 (.region [⟨(some 17), .mov (.t 6), none⟩,
  ⟨(some 18), .bin .add (.t 17) (.c (.int .i64 1)), none⟩,
  ⟨(some 6), .mov (.t 18), none⟩] none))
def b54_4 : IC := .seq (.seq (.region [⟨(some 31), .mov (.t 8), none⟩,
  ⟨(some 32), .faddr 1 (.t 2), none⟩,
  ⟨(some 33), .load none (.t 32), none⟩,
  ⟨(some 34), .len false (.t 33), none⟩,
  ⟨(some 35), .bin .lss (.t 31) (.t 34), none⟩] none)
 (.cond (.t 35) (.skip)
 (.exit 4)))
 (.seq (.block 5 (.seq (.region [⟨(some 38), .faddr 1 (.t 2), none⟩,
  ⟨(some 39), .load none (.t 38), none⟩,
  ⟨(some 40), .mov (.t 8), none⟩,
  ⟨(some 41), .idxs 2 (.t 39) (.t 40), none⟩,
  ⟨(some 42), .load (some 2) (.t 41), none⟩,
  ⟨(some 9), .alloc [.int .i64 0, .int .i64 0], none⟩,
  ⟨none, .store 2 (.t 9) (.t 42), none⟩] none)
 (.seq (.region [⟨(some 43), .mov (.t 5), none⟩,
  ⟨(some 44), .faddr 0 (.t 9), none⟩,
  ⟨(some 45), .load none (.t 44), none⟩,
  ⟨(some 46), .idxs 1 (.t 43) (.t 45), none⟩,
  ⟨(some 47), .load none (.t 46), none⟩,
  ⟨(some 48), .mov (.t 7), none⟩,
  ⟨(some 49), .bin .eql (.t 47) (.t 48), none⟩,
  ⟨(some 50), .mov (.t 49), none⟩,
  ⟨(some 51), .mov (.t 5), some (50, true)⟩,
  ⟨(some 52), .faddr 1 (.t 9), some (50, true)⟩,
  ⟨(some 53), .load none (.t 52), some (50, true)⟩,
  ⟨(some 54), .idxs 1 (.t 51) (.t 53), some (50, true)⟩,
  ⟨(some 55), .load none (.t 54), some (50, true)⟩,
  ⟨(some 56), .bin .lss (.t 55) (.c (.int .i64 0)), some (50, true)⟩,
  ⟨(some 57), .pick (.t 50) (.t 56) (.c (.bool false)), none⟩] none)
 (.cond (.t 57) (.region [⟨(some 58), .mov (.t 5), none⟩,
  ⟨(some 59), .faddr 1 (.t 9), none⟩,
  ⟨(some 60), .load none (.t 59), none⟩,
  ⟨(some 61), .mov (.t 7), none⟩,
  ⟨(some 62), .bin .add (.t 61) (.c (.int .i64 1)), none⟩,
  ⟨(some 63), .idxs 1 (.t 58) (.t 60), none⟩,
  ⟨none, .store 1 (.t 63) (.t 62), none⟩] none)
 (.skip)))))
 (.region [⟨(some 36), .mov (.t 8), none⟩,
  ⟨(some 37), .bin .add (.t 36) (.c (.int .i64 1)), none⟩,
  ⟨(some 8), .mov (.t 37), none⟩] none))
def b54_2 : IC := .seq (.seq (.region [⟨(some 25), .mov (.t 7), none⟩,
  ⟨(some 26), .faddr 0 (.t 2), none⟩,
  ⟨(some 27), .load none (.t 26), none⟩,
  ⟨(some 28), .bin .lss (.t 25) (.t 27), none⟩] none)
 (.cond (.t 28) (.skip)
 (.exit 2)))
 (.seq (.block 3 (.seq (.region [⟨(some 8), .mov (.c (.int .i64 0)), none⟩] none)
 (.block 4 (.loop b54_4))))
 (.region [⟨(some 29), .mov (.t 7), none⟩,
  ⟨(some 30), .bin .add (.t 29) (.c (.int .i64 1)), none⟩,
  ⟨(some 7), .mov (.t 30), none⟩] none))
-- pneumatic/pneumaticref10.Far
def ic54 : IC := .seq (.region [⟨(some 2), .box (.t 0), none⟩,
  ⟨(some 4), .mov (.c (.nils)), none⟩] none)
 (.seq (.region [⟨(some 10), .faddr 0 (.t 2), none⟩,
  ⟨(some 11), .load none (.t 10), none⟩,
  ⟨(some 12), .mkslice 1 8 [.int .i64 0] (.t 11) (.t 11), none⟩,
  ⟨(some 5), .mov (.t 12), none⟩] none)
 (.seq (.seq (.region [⟨(some 6), .mov (.c (.int .i64 0)), none⟩] none)
 (.block 0 (.loop b54_0)))
 (.seq (.region [⟨(some 22), .mov (.t 5), none⟩,
  ⟨(some 23), .mov (.t 1), none⟩,
  ⟨(some 24), .idxs 1 (.t 22) (.t 23), none⟩,
  ⟨none, .store 1 (.t 24) (.c (.int .i64 0)), none⟩] none)
 (.seq (.seq (.region [⟨(some 7), .mov (.c (.int .i64 0)), none⟩] none)
 (.block 2 (.loop b54_2)))
 (.seq (.region [⟨(some 64), .mov (.t 5), none⟩,
  ⟨(some 4), .mov (.t 64), none⟩] none)
 (.ret))))))
theorem fn54 : env0.fn 54 = some ⟨65, ic54, [.t 4]⟩ := by kernel_rfl
theorem zsx (m : Nat) : ((List.range m).map fun v => if v < m then AV.int .i64 (-1) else AV.int .i64 0) = (List.replicate m (-1 : Int)).map (AV.int .i64) := by
 refine List.ext_getElem (by simp) fun i h1 h2 => ?_
 simp only [List.length_map, List.length_range] at h1
 simp [h1]
theorem zlc (E : List (Nat × Nat)) (m f r : Nat) : zcj E m f (r + 1) = E.foldl (zia (r : Int)) (zcj E m f r) := by
 unfold zcj
 rw [List.range_succ, List.foldl_append]
 rfl
theorem zev (E : List (Nat × Nat)) (m f : Nat) : ∀ r, (zcj E m f r).length = m := by
 have h1 : ∀ (r : Int) (E : List (Nat × Nat)) (o : List Int), (E.foldl (zia r) o).length = o.length := by
  intro r E
  induction E with
  | nil => intro o; rfl
  | cons e E ih =>
   intro o
   rw [List.foldl_cons, ih]
   unfold zia
   split
   ·rw [List.length_set]
   ·rfl
 intro r
 induction r with
 | zero => show ((List.replicate m (-1 : Int)).set f 0).length = m; rw [List.length_set, List.length_replicate]
 | succ r ih => rw [zlc, h1, ih]
theorem ztj (r : Int) : ∀ (E : List (Nat × Nat)) (o : List Int), (E.foldl (zia r) o).length = o.length
 | [], _ => rfl
 | e :: E, o => by
  rw [List.foldl_cons, ztj r E]
  unfold zia
  split
  ·rw [List.length_set]
  ·rfl
set_option maxHeartbeats 4000000 in
theorem far54 (m : Nat) (hm : m ≤ 256) (E : List (Nat × Nat)) (hE : E.length ≤ 5000) (hb : ∀ u v, (u, v) ∈ E → u < m ∧ v < m) (f : Nat) (hf : f < m) : PF Try.prog 54 [cG (m : Nat) (zai E), .int .i64 (f : Nat)] (vsI (zcj E m f m)) := by
 have ez : ∀ o : Nat, 0 + ((o : Nat) : Int).toNat * 1 = o := fun o => by simp
 have hcl : (cE (zai E)).length = E.length := by rw [zc2]; exact List.length_map ..
 refine zav env0_ok fn54 [(0, .agg [.int .i64 (m : Nat), .vs (cE (zai E))]), (1, .int .i64 (f : Nat))] (by show 2 ≤ 65; decide) rfl fun w0 N0 => ?_
 unfold ic54
 refine za5 (za0 rfl (zd3 rfl rfl (za1 rfl (za3 (za2 ?_)))))
 refine zbf [] [(0, 0, [.int .i64 (m : Nat), .vs (cE (zai E))])] [(1, .int .i64 (f : Nat)), (2, .vptr [.int .i64 (m : Nat), .vs (cE (zai E))])] rfl (.cons rfl rfl .nil) .nil (.cons rfl (.same rfl) (.cons rfl (.fptr rfl rfl) .nil)) ?_
 repeat (first | refine za5 ?_ | refine za0 rfl ?_ | refine zaf rfl rfl ?_ | refine zac rfl rfl rfl ?_)
 refine zt2 rfl rfl ⟨Int.natCast_nonneg m, Int.le_refl _, by omega, by decide⟩ ?_
 repeat (first | refine za5 ?_ | refine za0 rfl ?_ | refine za3 ?_ | refine za2 ?_ | refine zaa ?_ | refine za1 rfl ?_)
 refine zba (fun mm S => ∃ i hp, mm = m - i ∧ i ≤ m ∧ Am.look 0 hp = some (1, .cells ((List.range m).map fun v => if v < i then AV.int .i64 (-1) else AV.int .i64 0)) ∧ S = st 65 [(1, .int .i64 (f : Nat)), (2, .vptr [.int .i64 (m : Nat), .vs (cE (zai E))]), (5, .ms 0 1 1 0 m (some m)), (6, .int .i64 (i : Nat))] hp 1 2) m
  (za7 (.cons rfl (.cons rfl (.cons rfl (.cons rfl .nil))))) ⟨0, _, rfl, Nat.zero_le _, by
   show some (1, AObj.cells (zeo m [.int .i64 0])) = _
   rw [zgh]
   simp, rfl⟩ ?_
 rintro mm S ⟨i, hp, rfl, hi, hk, rfl⟩
 unfold b54_0
 repeat (first | refine za5 ?_ | refine za0 rfl ?_ | refine za1 rfl ?_ | refine zaf rfl rfl ?_ | refine zac rfl rfl rfl ?_)
 refine zam rfl rfl rfl (fun h3 => ?_) fun h3 => ?_
 ·have hlt : i < m := Int.ofNat_lt.1 (of_decide_eq_true h3)
  have w1 : IntKind.wrap .i64 (((i : Nat) : Int) + 1) = ((i + 1 : Nat) : Int) := zak i (by omega)
  repeat (first | refine za5 ?_ | refine za0 rfl ?_ | refine za3 ?_ | refine za2 ?_ | refine zaa ?_ | refine zad ?_ | refine zbt rfl ?_ | refine za1 rfl ?_ | refine zb2 rfl rfl (by omega) (by omega) ?_)
  rw [ez]
  refine zc7 (id := 0) (sp := 1) (off := i) rfl rfl rfl hk (by simp; exact hlt) rfl ?_
  repeat (first | refine za0 rfl ?_ | refine za3 ?_ | refine za2 ?_ | refine zb7 ?_ | refine za1 rfl ?_ | refine zaz (op := .add) rfl rfl rfl ?_)
  rw [w1]
  refine zaj (show m - (i + 1) < m - i by omega) (za7 (.cons rfl (.cons rfl (.cons rfl (.cons rfl .nil))))) ⟨i + 1, _, rfl, hlt, ?_, rfl⟩
  rw [za8, if_pos rfl, map_set]
  congr 4
  funext v
  unfold upd
  by_cases e : v = i
  ·rw [if_pos e, if_pos (by omega)]
  ·rw [if_neg e, zn8 e]
 have hie : i = m := by
  have h4 : ¬ ((i : Nat) : Int) < ((m : Nat) : Int) := of_decide_eq_false h3
  omega
 subst hie
 rw [zsx] at hk
 repeat (first | refine za3 ?_ | refine za2 ?_ | refine zbm rfl ?_ | refine zb9 ?_ | refine zab ?_)
 refine zc8 ?_
 repeat (first | refine za5 ?_ | refine za0 rfl ?_ | refine za2 ?_ | refine zb8 ?_ | refine za1 rfl ?_ | refine zb2 rfl rfl (by omega) (by omega) ?_)
 rw [ez]
 refine zc7 (id := 0) (sp := 1) (off := f) rfl rfl rfl hk (by simp; exact hf) rfl ?_
 repeat (first | refine za5 ?_ | refine za0 rfl ?_ | refine za3 ?_ | refine za2 ?_ | refine zaa ?_ | refine za1 rfl ?_)
 refine zba (fun mm S => ∃ r hp nx ck, mm = i - r ∧ r ≤ i ∧ 0 < nx ∧ Am.look 0 hp = some (1, .cells ((zcj E i f r).map (AV.int .i64))) ∧ S = st 65 [(2, .vptr [.int .i64 (i : Nat), .vs (cE (zai E))]), (5, .ms 0 1 1 0 i (some i)), (7, .int .i64 (r : Nat))] hp nx ck) i
  (za7 (.cons rfl (.cons rfl (.cons rfl .nil)))) ⟨0, _, _, _, rfl, Nat.zero_le _, Nat.zero_lt_one, by rw [za8, if_pos rfl, ← List.map_set]; rfl, rfl⟩ ?_
 rintro mm S ⟨r, hp, nx, ck, rfl, hr, hnx, hk, rfl⟩
 unfold b54_2
 repeat (first | refine za5 ?_ | refine za0 rfl ?_ | refine za1 rfl ?_ | refine zaf rfl rfl ?_ | refine zac rfl rfl rfl ?_)
 refine zam rfl rfl rfl (fun h3 => ?_) fun h3 => ?_
 ·have hlt : r < i := Int.ofNat_lt.1 (of_decide_eq_true h3)
  have wr : IntKind.wrap .i64 (((r : Nat) : Int) + 1) = ((r + 1 : Nat) : Int) := zak r (by omega)
  repeat (first | refine za5 ?_ | refine za0 rfl ?_ | refine za3 ?_ | refine za2 ?_ | refine zaa ?_ | refine zad ?_ | refine zbt rfl ?_ | refine za1 rfl ?_)
  refine zba (fun mm S => ∃ j hp nx ck, mm = E.length - j ∧ j ≤ E.length ∧ 0 < nx ∧ Am.look 0 hp = some (1, .cells (((E.take j).foldl (zia (r : Int)) (zcj E i f r)).map (AV.int .i64))) ∧ S = st 65 [(2, .vptr [.int .i64 (i : Nat), .vs (cE (zai E))]), (5, .ms 0 1 1 0 i (some i)), (7, .int .i64 (r : Nat)), (8, .int .i64 (j : Nat))] hp nx ck) E.length
   (za7 (.cons rfl (.cons rfl (.cons rfl (.cons rfl .nil))))) ⟨0, _, _, _, rfl, Nat.zero_le _, hnx, hk, rfl⟩ ?_
  rintro mm S ⟨j, hp, nx, ck, rfl, hj, hnx, hk, rfl⟩
  have hol : ((E.take j).foldl (zia (r : Int)) (zcj E i f r)).length = i := by rw [ztj, zev]
  unfold b54_4
  repeat (first | refine za5 ?_ | refine za0 rfl ?_ | refine za1 rfl ?_ | refine zaf rfl rfl ?_ | refine zac rfl rfl rfl ?_ | refine zbg rfl rfl ?_)
  refine zam rfl rfl rfl (fun h4 => ?_) fun h4 => ?_
  ·have hlt2 : j < E.length := by
    have h5 : ((j : Nat) : Int) < (((cE (zai E)).length : Nat) : Int) := of_decide_eq_true h4
    omega
   have w1 : IntKind.wrap .i64 (((j : Nat) : Int) + 1) = ((j + 1 : Nat) : Int) := zak j (by omega)
   have hg := zdq hlt2
   obtain ⟨ha, hb3⟩ := hb _ _ (List.getElem_mem hlt2 : (E[j].1, E[j].2) ∈ E)
   have hst : (E.take (j + 1)).foldl (zia (r : Int)) (zcj E i f r) = zia (r : Int) ((E.take j).foldl (zia (r : Int)) (zcj E i f r)) (E[j].1, E[j].2) := by
    rw [List.take_add_one, List.getElem?_eq_getElem hlt2]
    show (E.take j ++ [E[j]]).foldl _ _ = _
    rw [List.foldl_append]
    rfl
   generalize (E.take j).foldl (zia (r : Int)) (zcj E i f r) = o at *
   generalize E[j].1 = a at *
   generalize E[j].2 = b at *
   repeat (first | refine za5 ?_ | refine za0 rfl ?_ | refine za3 ?_ | refine za2 ?_ | refine zaa ?_ | refine zad ?_ | refine zbt rfl ?_ | refine za1 rfl ?_ | refine zaf rfl rfl ?_ | refine zaq rfl rfl rfl rfl ?_ | refine zac rfl rfl rfl ?_ | refine ze8 ?_ | refine zb1 rfl rfl (by omega) (by assumption) rfl ?_)
   refine zdo (id := nx) (sp := ck) (off := 0) rfl rfl rfl rfl zb6 rfl rfl ?_
   have k0 : Am.look 0 (zcc nx (ck, AObj.cells [.int .i64 (a : Nat), .int .i64 (b : Nat)]) ((nx, ck, AObj.cells [.int .i64 0, .int .i64 0]) :: hp)) = some (1, .cells (o.map (AV.int .i64))) := by
    rw [za8, if_neg (by omega), za9, if_neg (by omega)]
    exact hk
   have k5 : Am.look nx (zcc nx (ck, AObj.cells [.int .i64 (a : Nat), .int .i64 (b : Nat)]) ((nx, ck, AObj.cells [.int .i64 0, .int .i64 0]) :: hp)) = some (ck, .cells [.int .i64 (a : Nat), .int .i64 (b : Nat)]) := by
    rw [za8, if_pos rfl]
   repeat (first | refine za5 ?_ | refine za0 rfl ?_ | refine za3 ?_ | refine za2 ?_ | refine za1 rfl ?_ | refine zbz rfl ?_)
   refine zau (id := nx) (sp := ck) (off := 0) rfl k5 (Nat.lt_succ_self _) rfl ?_
   repeat (first | refine zb2 rfl rfl (by omega) (by omega) ?_)
   rw [ez]
   refine zau (id := 0) (sp := 1) (off := a) rfl k0 (Nat.succ_pos _) (zoe (by omega)) ?_
   repeat (first | refine za1 rfl ?_)
   refine zam rfl rfl rfl (fun h5 => ?_) fun h5 => ?_
   ·have h5 : gI o a = (r : Int) := by simpa using h5
    repeat (first | refine zd4 rfl ?_ | refine za1 rfl ?_ | refine zbz rfl ?_)
    refine zau (id := nx) (sp := ck) (off := 0 + 1) rfl k5 (Nat.lt_succ_self _) rfl ?_
    repeat (first | refine zd4 rfl ?_ | refine zb2 rfl rfl (by omega) (by omega) ?_)
    rw [ez]
    refine zau (id := 0) (sp := 1) (off := b) rfl k0 (Nat.succ_pos _) (zoe (by omega)) ?_
    refine zd4 rfl ?_
    refine zam rfl rfl rfl (fun h6 => ?_) fun h6 => ?_
    ·have h6 : gI o b < 0 := of_decide_eq_true h6
     have hv1 : zia (r : Int) o (a, b) = o.set b ((r + 1 : Nat) : Int) := by unfold zia; rw [if_pos ⟨h5, h6⟩]; rfl
     repeat (first | refine za0 rfl ?_ | refine za3 ?_ | refine za2 ?_ | refine zbt rfl ?_ | refine za1 rfl ?_ | refine zbz rfl ?_ | refine zal rfl rfl ?_)
     refine zau (id := nx) (sp := ck) (off := 0 + 1) rfl k5 (Nat.lt_succ_self _) rfl ?_
     repeat (first | refine za1 rfl ?_ | refine zaz (op := .add) rfl rfl rfl ?_ | refine zb2 rfl rfl (by omega) (by omega) ?_)
     rw [ez, wr]
     refine zc7 (id := 0) (sp := 1) (off := b) rfl rfl rfl k0 (by simp; omega) rfl ?_
     repeat (first | refine za0 rfl ?_ | refine za3 ?_ | refine za2 ?_ | refine zb7 ?_ | refine za1 rfl ?_ | refine zaz (op := .add) rfl rfl rfl ?_)
     rw [w1]
     exact zaj (show E.length - (j + 1) < E.length - j by omega) (za7 (.cons rfl (.cons rfl (.cons rfl (.cons rfl .nil))))) ⟨j + 1, _, _, _, rfl, hlt2, Nat.succ_pos _, by rw [za8, if_pos rfl, ← List.map_set, hst, hv1], rfl⟩
    ·have h6 : ¬ gI o b < 0 := of_decide_eq_false h6
     have hv1 : zia (r : Int) o (a, b) = o := by unfold zia; rw [if_neg fun e => h6 e.2]
     repeat (first | refine za0 rfl ?_ | refine za3 ?_ | refine za2 ?_ | refine zb7 ?_ | refine zad ?_ | refine zbm rfl ?_ | refine za1 rfl ?_ | refine zal rfl rfl ?_ | refine zaz (op := .add) rfl rfl rfl ?_)
     rw [w1]
     exact zaj (show E.length - (j + 1) < E.length - j by omega) (za7 (.cons rfl (.cons rfl (.cons rfl (.cons rfl .nil))))) ⟨j + 1, _, _, _, rfl, hlt2, Nat.succ_pos _, by rw [hst, hv1]; exact k0, rfl⟩
   ·have h5 : ¬ gI o a = (r : Int) := by simpa using h5
    have hv1 : zia (r : Int) o (a, b) = o := by unfold zia; rw [if_neg fun e => h5 e.1]
    repeat (first | refine za0 rfl ?_ | refine za3 ?_ | refine za2 ?_ | refine zb7 ?_ | refine zad ?_ | refine zbm rfl ?_ | refine zik rfl rfl ?_ | refine za1 rfl ?_ | refine zax rfl rfl ?_ | refine zaz (op := .add) rfl rfl rfl ?_)
    rw [w1]
    exact zaj (show E.length - (j + 1) < E.length - j by omega) (za7 (.cons rfl (.cons rfl (.cons rfl (.cons rfl .nil))))) ⟨j + 1, _, _, _, rfl, hlt2, Nat.succ_pos _, by rw [hst, hv1]; exact k0, rfl⟩
  ·have hje : j = E.length := by
    have h5 : ¬ ((j : Nat) : Int) < (((cE (zai E)).length : Nat) : Int) := of_decide_eq_false h4
    omega
   subst hje
   rw [List.take_length, ← zlc] at hk
   repeat (first | refine za3 ?_ | refine za2 ?_ | refine zbm rfl ?_ | refine zb9 ?_ | refine zab ?_)
   refine zc8 ?_
   repeat (first | refine za0 rfl ?_ | refine za3 ?_ | refine za2 ?_ | refine zb7 ?_ | refine zb8 ?_ | refine za1 rfl ?_ | refine zaz (op := .add) rfl rfl rfl ?_)
   rw [wr]
   exact zaj (show i - (r + 1) < i - r by omega) (za7 (.cons rfl (.cons rfl (.cons rfl .nil)))) ⟨r + 1, _, _, _, rfl, hlt, hnx, hk, rfl⟩
 ·have hre : r = i := by
   have h4 : ¬ ((r : Nat) : Int) < ((i : Nat) : Int) := of_decide_eq_false h3
   omega
  subst hre
  repeat (first | refine za3 ?_ | refine za2 ?_ | refine zbm rfl ?_ | refine zb9 ?_ | refine zab ?_)
  refine zc8 ?_
  repeat (first | refine za5 ?_ | refine za0 rfl ?_ | refine za3 ?_ | refine za2 ?_ | refine zat ?_ | refine zb8 ?_ | refine za1 rfl ?_)
  exact zao ⟨.inr rfl, _, rfl, zbl _ (zev E r f r) hk⟩
end Go.Proofs.Ytoagikifehmlpaa
