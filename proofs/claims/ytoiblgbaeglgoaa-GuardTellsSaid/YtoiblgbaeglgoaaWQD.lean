/-
  QC, R22 in one text.
-/
import Derived.Test.YtoiblgbaeglgoaaWQB
import Derived.Test.YtoiblgbaeglgoaaWT1
namespace Go.Proofs.Ytoiblgbaeglgoaa
open Go Go.Am
theorem zhm {a b a' b' : AV} (h : a = a') (k : b = b') : [a, b] = [a', b'] := by rw [h, k]
def zo7 : IC := .seq (.region [⟨(some 16), .bin .lss (.t 15) (.t 14), none⟩] none)
 (.seq (.cond (.t 16) (.skip)
 (.exit 0))
 (.seq (.block 1 (.seq (.region [⟨(some 17), .idxs 1 (.t 13) (.t 15), none⟩,
  ⟨(some 18), .load none (.t 17), none⟩,
  ⟨(some 7), .mov (.t 18), none⟩] none)
 (.region [⟨(some 19), .mov (.t 5), none⟩,
  ⟨(some 20), .mov (.t 7), none⟩,
  ⟨(some 21), .bin .eql (.t 20) (.c (.int .i64 0)), none⟩,
  ⟨(some 22), .mov (.t 7), none⟩,
  ⟨(some 23), .bin .eql (.t 22) (.c (.int .i64 2)), none⟩,
  ⟨(some 24), .bslice 1 2 [.bool false, .bool false] [(0, 1, (.t 21)), (1, 1, (.t 23))], none⟩,
  ⟨(some 25), .append 1 1 [.bool false] (.t 19) (.t 24), none⟩,
  ⟨(some 5), .mov (.t 25), none⟩] none)))
 (.region [⟨(some 26), .bin .add (.t 15) (.c (.int .i64 1)), none⟩,
  ⟨(some 15), .mov (.t 26), none⟩] none)))
def zo8 : IC := .seq (.region [⟨(some 30), .bin .lss (.t 29) (.t 28), none⟩] none)
 (.seq (.cond (.t 30) (.skip)
 (.exit 2))
 (.seq (.block 3 (.seq (.region [⟨(some 31), .mov (.t 29), none⟩,
  ⟨(some 32), .idxs 3 (.t 27) (.t 29), none⟩,
  ⟨(some 33), .load (some 3) (.t 32), none⟩,
  ⟨(some 10), .alloc [.int .i64 0, .int .i64 0, .nils], none⟩,
  ⟨(some 9), .mov (.t 31), none⟩,
  ⟨none, .store 3 (.t 10) (.t 33), none⟩] none)
 (.seq (.region [⟨(some 35), .load (some 3) (.t 10), none⟩,
  ⟨(some 36), .mov (.t 5), none⟩,
  ⟨(some 37), .call (.c (.fn 131 [] [])) [(.t 35), (.t 36)], none⟩,
  ⟨(some 34), .mov (.t 37), none⟩,
  ⟨(some 38), .extract (.t 34) 0, none⟩,
  ⟨(some 39), .extract (.t 34) 1, none⟩,
  ⟨(some 11), .mov (.t 38), none⟩,
  ⟨(some 12), .mov (.t 39), none⟩] none)
 (.seq (.region [⟨(some 40), .mov (.t 12), none⟩,
  ⟨(some 41), .bin .eql (.t 40) (.c (.int .i64 0)), none⟩,
  ⟨(some 42), .mov (.t 41), none⟩,
  ⟨(some 43), .mov (.t 11), some (42, true)⟩,
  ⟨(some 44), .pick (.t 42) (.t 43) (.c (.bool false)), none⟩] none)
 (.cond (.t 44) (.region [⟨(some 45), .mov (.t 8), none⟩,
  ⟨(some 46), .mov (.t 9), none⟩,
  ⟨(some 47), .bslice 1 1 [.int .i64 0] [(0, 1, (.t 46))], none⟩,
  ⟨(some 48), .append 1 8 [.int .i64 0] (.t 45) (.t 47), none⟩,
  ⟨(some 8), .mov (.t 48), none⟩] none)
 (.skip))))))
 (.region [⟨(some 49), .bin .add (.t 29) (.c (.int .i64 1)), none⟩,
  ⟨(some 29), .mov (.t 49), none⟩] none)))
-- pneumatic/guard.which
def ic83 : IC := .seq (.region [⟨(some 4), .mov (.c (.nils)), none⟩] none)
 (.seq (.region [⟨(some 5), .mov (.c (.nils)), none⟩] none)
 (.seq (.seq (.region [⟨(some 13), .mov (.t 1), none⟩,
  ⟨(some 14), .len false (.t 13), none⟩,
  ⟨(some 15), .mov (.c (.int .i64 0)), none⟩] none)
 (.block 0 (.loop zo7)))
 (.seq (.region [⟨(some 8), .mov (.c (.nils)), none⟩] none)
 (.seq (.seq (.region [⟨(some 27), .mov (.t 0), none⟩,
  ⟨(some 28), .len false (.t 27), none⟩,
  ⟨(some 29), .mov (.c (.int .i64 0)), none⟩] none)
 (.block 2 (.loop zo8)))
 (.seq (.region [⟨(some 50), .mov (.t 8), none⟩,
  ⟨(some 4), .mov (.t 50), none⟩] none)
 (.ret))))))
theorem fn83 : env0.fn 83 = some ⟨51, ic83, [.t 4]⟩ := by kernel_rfl
set_option maxHeartbeats 4000000 in
theorem zvx (l : List Ex) (hl : l.length ≤ 600) (e : List Int) (he0 : 0 < e.length) (he : e.length ≤ 600) (hck : ∀ y ∈ l, zd3 y (sw e).length = 0) (hsl : ∀ y ∈ l, Slim y) : PF Try.prog 83 [.vs (cXs l), vsI e] (vsI (idxs (zcn (sw e)) 0 l)) := by
 have hcl : (cXs l).length = l.length := zaj l
 have hce : (e.map fun z => ([.int .i64 z] : List AV)).length = e.length := List.length_map ..
 refine zb1 env0_ok fn83 [(0, .vs (cXs l)), (1, vsI e)] (by show 2 ≤ 51; decide) rfl fun w0 N0 => ?_
 unfold ic83
 repeat (first | refine za5 ?_ | refine za0 rfl ?_ | refine za4 ?_ | refine za2 ?_ | refine zae ?_ | refine za3 rfl ?_ | refine zbk rfl rfl ?_)
 refine zcj (fun mm S => ∃ i, mm = e.length - i ∧ i ≤ e.length ∧
   (
    (i = 0 ∧ S = st 51 [(0, .vs (cXs l)), (13, vsI e), (14, .int .i64 (e.map fun z => ([.int .i64 z] : List AV)).length), (5, .nils), (15, .int .i64 (i : Nat))] [] 0 1) ∨
    ∃ k cs, k = cs.length ∧ cs = (sw (e.take i)).map AV.bool ∧ S = st 51 [(0, .vs (cXs l)), (13, vsI e), (14, .int .i64 (e.map fun z => ([.int .i64 z] : List AV)).length), (5, .ms 0 0 1 0 k none), (15, .int .i64 (i : Nat))] [(0, 0, .cells cs)] 1 1)) e.length
  (zeb (.cons rfl (.same rfl) (.cons rfl (.same rfl) (.cons rfl (.same rfl) (.cons rfl (.same rfl) (.cons rfl (.same rfl) .nil)))))) ⟨0, rfl, Nat.zero_le _, .inl ⟨rfl, rfl⟩⟩ ?_
 rintro mm S ⟨i, rfl, hi, ⟨rfl, rfl⟩ | ⟨k, cs, hk, hcs, rfl⟩⟩
 ·unfold zo7
  repeat (first | refine za5 ?_ | refine za0 rfl ?_)
  refine zak rfl rfl rfl (fun h3 => ?_) fun h3 => ?_
  ·have hge := zfl e 0 he0
   have ht : e.take (0 + 1) = [e[0]] := by
    cases e with
    | nil => simp at he0
    | cons a t => rfl
   generalize e[0] = z at hge ht
   repeat (first | refine za5 ?_ | refine za0 rfl ?_ | refine za4 ?_ | refine za2 ?_ | refine zae ?_ | refine zab ?_ | refine zb6 rfl ?_)
   refine zc2 rfl rfl (Int.natCast_nonneg 0) hge rfl ?_
   repeat (first | refine za0 rfl ?_ | refine za4 ?_ | refine za2 ?_ | refine za3 rfl ?_ | refine zag rfl rfl ?_)
   refine zao (op := .eql) rfl rfl rfl ?_
   repeat (first | refine za3 rfl ?_)
   refine zao (op := .eql) rfl rfl rfl ?_
   repeat (first | refine za0 rfl ?_ | refine za4 ?_ | refine za2 ?_ | refine zbe ?_ | refine za3 rfl ?_ | refine zdm rfl rfl ?_ | refine zfr rfl rfl rfl rfl ?_ | refine zao (op := .add) rfl rfl rfl ?_)
   exact zaz (show e.length - (0 + 1) < e.length - 0 by omega) (zfk [(1, _, [.bool (z == 0), .bool (z == 2)])] rfl rfl (by simp) (.cons rfl rfl (zda rfl) .nil) (.cons rfl (.same rfl) (.cons rfl (.same rfl) (.cons rfl (.same rfl) (.cons rfl (.ms rfl) (.cons rfl (.same rfl) .nil)))))) ⟨0 + 1, rfl, he0, .inr ⟨2, _, rfl, by rw [ht]; rfl, rfl⟩⟩
  ·have := of_decide_eq_false h3
   rw [hce] at this
   exact absurd he0 (by omega)
 ·unfold zo7
  repeat (first | refine za5 ?_ | refine za0 rfl ?_)
  refine zak rfl rfl rfl (fun h3 => ?_) fun h3 => ?_
  ·have hlt : i < e.length := by
    have := of_decide_eq_true h3
    rw [hce] at this
    omega
   have hge := zfl e i hlt
   have ht : e.take (i + 1) = e.take i ++ [e[i]] := by rw [List.take_add_one, List.getElem?_eq_getElem hlt]; rfl
   generalize e[i] = z at hge ht
   have hlk : cs.length ≤ 1200 := by rw [hcs, List.length_map, znv, List.length_take]; omega
   have hM : hasM.hasML cs = false := by rw [hcs]; exact zcv _
   repeat (first | refine za5 ?_ | refine za0 rfl ?_ | refine za4 ?_ | refine za2 ?_ | refine zae ?_ | refine zab ?_ | refine zb6 rfl ?_)
   refine zc2 rfl rfl (Int.natCast_nonneg i) hge rfl ?_
   repeat (first | refine za0 rfl ?_ | refine za4 ?_ | refine za2 ?_ | refine za3 rfl ?_ | refine zag rfl rfl ?_)
   refine zao (op := .eql) rfl rfl rfl ?_
   repeat (first | refine za3 rfl ?_)
   refine zao (op := .eql) rfl rfl rfl ?_
   repeat (first | refine zdm rfl rfl ?_)
   refine zbd [[.bool (z == 0)], [.bool (z == 2)]] rfl rfl rfl (fun h => Nat.noConfusion h) rfl (by decide) rfl (by rw [hk]; omega) (by rw [hk]; show cs.length + 2 ≤ _; omega) ?_
   repeat (first | refine za0 rfl ?_ | refine za4 ?_ | refine za2 ?_ | refine zbe ?_ | refine za3 rfl ?_ | refine zao (op := .add) rfl rfl rfl ?_)
   exact zaz (show e.length - (i + 1) < e.length - i by omega) (zfk [(0, _, cs ++ [.bool (z == 0), .bool (z == 2)])] rfl rfl (by simp) (.cons rfl rfl (zda (ze4 hM rfl)) .nil) (.cons rfl (.same rfl) (.cons rfl (.same rfl) (.cons rfl (.same rfl) (.cons rfl (.ms rfl) (.cons rfl (zjr (congrArg (AV.int .i64) (zb2 i (by omega))) rfl) .nil)))))) ⟨i + 1, rfl, hlt, .inr ⟨k + 2, _, by rw [List.length_append, hk]; rfl, by rw [ht, zvl, List.map_append, hcs]; rfl, rfl⟩⟩
  ·have hi2 : i = e.length := by
    have := of_decide_eq_false h3
    rw [hce] at this
    omega
   repeat (first | refine za5 ?_ | refine za4 ?_ | refine za2 ?_ | refine zbi rfl ?_ | refine zc0 ?_ | refine zan ?_)
   refine zdk ?_
   repeat (first | refine za5 ?_ | refine za0 rfl ?_ | refine za4 ?_ | refine za2 ?_ | refine zae ?_ | refine zby ?_ | refine za3 rfl ?_ | refine zbk rfl rfl ?_)
   have hfin : cs = (sw e).map AV.bool := by rw [hcs, hi2, List.take_length]
   clear hcs
   subst hfin
   rw [List.length_map] at hk
   subst hk
   refine zcj (fun mm S => ∃ i out, mm = l.length - i ∧ i ≤ l.length ∧ out ++ idxs (zcn (sw e)) i (l.drop i) = idxs (zcn (sw e)) 0 l ∧ out.length ≤ i ∧
    (
     (out = [] ∧ S = st 51 [(27, .vs (cXs l)), (28, .int .i64 (cXs l).length), (5, .ms 0 0 1 0 (sw e).length none), (8, .nils), (29, .int .i64 (i : Nat))] [(0, 0, .cells ((sw e).map AV.bool))] 1 1) ∨
     ∃ k cs, k = cs.length ∧ cs = out.map (AV.int .i64) ∧ S = st 51 [(27, .vs (cXs l)), (28, .int .i64 (cXs l).length), (5, .ms 0 0 1 0 (sw e).length none), (8, .ms 1 0 1 0 k none), (29, .int .i64 (i : Nat))] [(0, 0, .cells ((sw e).map AV.bool)), (1, 0, .cells cs)] 2 1)) l.length
    (zfk [(0, _, (sw e).map AV.bool)] rfl rfl (by simp) (.cons rfl rfl (zda (zcv _)) .nil) (.cons rfl (.same rfl) (.cons rfl (.same rfl) (.cons rfl (.ms rfl) (.cons rfl (.same rfl) (.cons rfl (.same rfl) .nil)))))) ⟨0, [], rfl, Nat.zero_le _, rfl, Nat.le_refl _, .inl ⟨rfl, rfl⟩⟩ ?_
   clear hi2 h3 hi
   rintro mm S ⟨i, out, rfl, hi, hall, hol, ⟨rfl, rfl⟩ | ⟨k, cs, hk, hcs, rfl⟩⟩
   ·unfold zo8
    repeat (first | refine za5 ?_ | refine za0 rfl ?_)
    refine zak rfl rfl rfl (fun h3 => ?_) fun h3 => ?_
    ·have hlt : i < l.length := by
      have := of_decide_eq_true h3
      rw [zaj] at this
      omega
     have hdr : l.drop i = l[i] :: l.drop (i + 1) := List.drop_eq_getElem_cons hlt
     rw [hdr] at hall
     have hge := zee hlt
     have hmem : l[i] ∈ l := List.getElem_mem hlt
     generalize l[i] = y at hall hge hmem
     have h81 := eval81 y (hsl y hmem) (sw e)
     unfold evalV at h81
     rw [if_pos (hck y hmem)] at h81
     obtain ⟨yo, yi, ya⟩ := y
     repeat (first | refine za5 ?_ | refine za0 rfl ?_ | refine za4 ?_ | refine za2 ?_ | refine zae ?_ | refine zab ?_ | refine zb6 rfl ?_ | refine za3 rfl ?_)
     refine zc2 rfl rfl (Int.natCast_nonneg i) hge rfl ?_
     repeat (first | refine za5 ?_ | refine za0 rfl ?_ | refine za4 ?_ | refine za2 ?_ | refine za3 rfl ?_ | refine zaw rfl rfl rfl rfl ?_ | refine zap rfl rfl rfl rfl rfl rfl rfl ?_ | refine zbl ?_)
     cases hf : zcn (sw e) (.nd yo yi ya) with
     | true =>
      rw [hf] at h81
      refine zas rfl (zhm rfl (zfv (sw e) rfl)) h81 (fun _ => rfl) ?_
      repeat (first | refine za5 ?_ | refine za0 rfl ?_ | refine za4 ?_ | refine za2 ?_ | refine zbe ?_ | refine zb6 rfl ?_ | refine zc8 rfl ?_ | refine za3 rfl ?_ | refine zai rfl rfl ?_ | refine zdm rfl rfl ?_ | refine zfr rfl rfl rfl rfl ?_ | refine zbg rfl rfl ?_ | refine zao (op := .add) rfl rfl rfl ?_ | refine zbu rfl rfl rfl ?_)
      exact zaz (show l.length - (i + 1) < l.length - i by omega) (zfk [(0, _, (sw e).map AV.bool), (3, _, [.int .i64 (i : Nat)])] rfl rfl (by simp) (.cons rfl rfl (zda (zcv _)) (.cons rfl rfl (zda rfl) .nil)) (.cons rfl (.same rfl) (.cons rfl (.same rfl) (.cons rfl (.ms rfl) (.cons rfl (.ms rfl) (.cons rfl (zjr (congrArg (AV.int .i64) (zb2 i (by omega))) rfl) .nil)))))) ⟨i + 1, [(i : Int)], rfl, hlt, by rw [← hall]; simp [idxs, hf], by show 1 ≤ _; omega, .inr ⟨1, _, rfl, rfl, rfl⟩⟩
     | false =>
      rw [hf] at h81
      refine zas rfl (zhm rfl (zfv (sw e) rfl)) h81 (fun _ => rfl) ?_
      repeat (first | refine za5 ?_ | refine za0 rfl ?_ | refine za4 ?_ | refine za2 ?_ | refine zbe ?_ | refine zab ?_ | refine zbi rfl ?_ | refine zc8 rfl ?_ | refine za3 rfl ?_ | refine zai rfl rfl ?_ | refine zbg rfl rfl ?_ | refine zao (op := .add) rfl rfl rfl ?_ | refine zbu rfl rfl rfl ?_)
      exact zaz (show l.length - (i + 1) < l.length - i by omega) (zfk [(0, _, (sw e).map AV.bool)] rfl rfl (by simp) (.cons rfl rfl (zda (zcv _)) .nil) (.cons rfl (.same rfl) (.cons rfl (.same rfl) (.cons rfl (.ms rfl) (.cons rfl (.same rfl) (.cons rfl (zjr (congrArg (AV.int .i64) (zb2 i (by omega))) rfl) .nil)))))) ⟨i + 1, [], rfl, hlt, by rw [← hall]; simp [idxs, hf], Nat.zero_le _, .inl ⟨rfl, rfl⟩⟩
    ·have hi2 : i = l.length := by
      have := of_decide_eq_false h3
      rw [zaj] at this
      omega
     rw [hi2, List.drop_length, idxs, List.append_nil] at hall
     repeat (first | refine za5 ?_ | refine za4 ?_ | refine za2 ?_ | refine zbi rfl ?_ | refine zc0 ?_ | refine zan ?_)
     refine zdk ?_
     repeat (first | refine za5 ?_ | refine za0 rfl ?_ | refine za4 ?_ | refine za2 ?_ | refine zaf ?_ | refine zby ?_ | refine za3 rfl ?_)
     refine zad ⟨.inr rfl, _, rfl, ?_⟩
     rw [← hall]
     rfl
   ·unfold zo8
    have hlk : cs.length ≤ 600 := by rw [hcs, List.length_map]; omega
    have hM : hasM.hasML cs = false := by rw [hcs]; exact zb8 _
    repeat (first | refine za5 ?_ | refine za0 rfl ?_)
    refine zak rfl rfl rfl (fun h3 => ?_) fun h3 => ?_
    ·have hlt : i < l.length := by
      have := of_decide_eq_true h3
      rw [zaj] at this
      omega
     have hdr : l.drop i = l[i] :: l.drop (i + 1) := List.drop_eq_getElem_cons hlt
     rw [hdr] at hall
     have hge := zee hlt
     have hmem : l[i] ∈ l := List.getElem_mem hlt
     generalize l[i] = y at hall hge hmem
     have h81 := eval81 y (hsl y hmem) (sw e)
     unfold evalV at h81
     rw [if_pos (hck y hmem)] at h81
     obtain ⟨yo, yi, ya⟩ := y
     repeat (first | refine za5 ?_ | refine za0 rfl ?_ | refine za4 ?_ | refine za2 ?_ | refine zae ?_ | refine zab ?_ | refine zb6 rfl ?_ | refine za3 rfl ?_)
     refine zc2 rfl rfl (Int.natCast_nonneg i) hge rfl ?_
     repeat (first | refine za5 ?_ | refine za0 rfl ?_ | refine za4 ?_ | refine za2 ?_ | refine za3 rfl ?_ | refine zaw rfl rfl rfl rfl ?_ | refine zap rfl rfl rfl rfl rfl rfl rfl ?_ | refine zbl ?_)
     cases hf : zcn (sw e) (.nd yo yi ya) with
     | true =>
      rw [hf] at h81
      refine zas rfl (zhm rfl (zfv (sw e) rfl)) h81 (fun _ => rfl) ?_
      repeat (first | refine za5 ?_ | refine za0 rfl ?_ | refine za4 ?_ | refine za2 ?_ | refine zb6 rfl ?_ | refine zc8 rfl ?_ | refine za3 rfl ?_ | refine zai rfl rfl ?_ | refine zdm rfl rfl ?_ | refine zbg rfl rfl ?_ | refine zbu rfl rfl rfl ?_)
      refine zbd [[.int .i64 (i : Nat)]] rfl rfl rfl (fun h => Nat.noConfusion h) rfl (by decide) rfl (by rw [hk]; omega) (by rw [hk]; show cs.length + 1 ≤ _; omega) ?_
      repeat (first | refine za0 rfl ?_ | refine za4 ?_ | refine za2 ?_ | refine zbe ?_ | refine za3 rfl ?_ | refine zao (op := .add) rfl rfl rfl ?_)
      exact zaz (show l.length - (i + 1) < l.length - i by omega) (zfk [(0, _, (sw e).map AV.bool), (1, _, cs ++ [.int .i64 (i : Nat)])] rfl rfl (by simp) (.cons rfl rfl (zda (zcv _)) (.cons rfl rfl (zda (ze4 hM rfl)) .nil)) (.cons rfl (.same rfl) (.cons rfl (.same rfl) (.cons rfl (.ms rfl) (.cons rfl (.ms rfl) (.cons rfl (zjr (congrArg (AV.int .i64) (zb2 i (by omega))) rfl) .nil)))))) ⟨i + 1, out ++ [(i : Int)], rfl, hlt, by rw [← hall]; simp [idxs, hf], by rw [List.length_append]; show out.length + 1 ≤ _; omega, .inr ⟨k + 1, _, by rw [List.length_append, hk]; rfl, by rw [List.map_append, hcs]; rfl, rfl⟩⟩
     | false =>
      rw [hf] at h81
      refine zas rfl (zhm rfl (zfv (sw e) rfl)) h81 (fun _ => rfl) ?_
      repeat (first | refine za5 ?_ | refine za0 rfl ?_ | refine za4 ?_ | refine za2 ?_ | refine zbe ?_ | refine zab ?_ | refine zbi rfl ?_ | refine zc8 rfl ?_ | refine za3 rfl ?_ | refine zai rfl rfl ?_ | refine zbg rfl rfl ?_ | refine zao (op := .add) rfl rfl rfl ?_ | refine zbu rfl rfl rfl ?_)
      exact zaz (show l.length - (i + 1) < l.length - i by omega) (zfk [(0, _, (sw e).map AV.bool), (1, _, cs)] rfl rfl (by simp) (.cons rfl rfl (zda (zcv _)) (.cons rfl rfl (zda hM) .nil)) (.cons rfl (.same rfl) (.cons rfl (.same rfl) (.cons rfl (.ms rfl) (.cons rfl (.ms rfl) (.cons rfl (zjr (congrArg (AV.int .i64) (zb2 i (by omega))) rfl) .nil)))))) ⟨i + 1, out, rfl, hlt, by rw [← hall]; simp [idxs, hf], by omega, .inr ⟨k, cs, hk, hcs, rfl⟩⟩
    ·have hi2 : i = l.length := by
      have := of_decide_eq_false h3
      rw [zaj] at this
      omega
     rw [hi2, List.drop_length, idxs, List.append_nil] at hall
     repeat (first | refine za5 ?_ | refine za4 ?_ | refine za2 ?_ | refine zbi rfl ?_ | refine zc0 ?_ | refine zan ?_)
     refine zdk ?_
     repeat (first | refine za5 ?_ | refine za0 rfl ?_ | refine za4 ?_ | refine za2 ?_ | refine zaf ?_ | refine zby ?_ | refine za3 rfl ?_)
     refine zad ⟨.inr rfl, _, rfl, ?_⟩
     rw [← hall]
     subst hcs
     rw [List.length_map] at hk
     subst hk
     exact zvs out rfl
end Go.Proofs.Ytoiblgbaeglgoaa
namespace Go.Proofs.Ytoiblgbaeglgoaa
open Go Go.Am
def posL : List Int → Int
 | [] => 0
 | z :: zs => if z < 0 ∨ z ≥ 4 then 1 else posL zs
def posC (l : List Ex) (e : List Int) : Int := if zc5 l e.length = 0 then posL e else zc5 l e.length
theorem zpy {m : Int} : ∀ {l : List Ex}, zmi m l = 0 → ∀ y ∈ l, zd3 y m = 0
 | [], _, y, hy => absurd hy List.not_mem_nil
 | x :: xs, h, y, hy => by
  rw [zmi] at h
  split at h
  ·rename_i h1
   rcases List.mem_cons.1 hy with he | hm
   ·rw [he]; exact h1
   ·exact zpy h y hm
  ·rename_i h1; exact absurd h h1
theorem zjc {l : List Ex} {n : Int} (h : zc5 l n = 0) : 1 ≤ n ∧ n ≤ 6 ∧ l.length ≤ 256 ∧ ∀ y ∈ l, zd3 y (2 * n) = 0 := by
 unfold zc5 at h
 split at h
 ·exact absurd h (by decide)
 ·split at h
  ·exact absurd h (by decide)
  ·exact ⟨by omega, by omega, by omega, zpy h⟩
def zek (l : List Ex) (e : List Int) : List Int := idxs (zcn (sw e)) 0 l
def zr5 (l : List Ex) (e : List Int) : AV := if posC l e = 0 then .tup [vsI (zek l e), .int .i64 0] else .tup [vsI [], .int .i64 (posC l e)]
theorem zvm (e : List Int) : ((sw e).length : Int) = 2 * (e.length : Int) := by
 have := znv e
 omega
def body28 : IC := .seq (.region [⟨(some 19), .bin .lss (.t 18) (.t 17), none⟩] none)
 (.seq (.cond (.t 19) (.skip)
 (.exit 0))
 (.seq (.block 1 (.seq (.region [⟨(some 20), .idxs 1 (.t 16) (.t 18), none⟩,
  ⟨(some 21), .load none (.t 20), none⟩,
  ⟨(some 8), .mov (.t 21), none⟩] none)
 (.seq (.region [⟨(some 22), .mov (.t 8), none⟩,
  ⟨(some 23), .bin .lss (.t 22) (.c (.int .i64 0)), none⟩,
  ⟨(some 24), .mov (.t 23), none⟩,
  ⟨(some 25), .mov (.t 8), some (24, false)⟩,
  ⟨(some 26), .bin .geq (.t 25) (.c (.int .i64 4)), some (24, false)⟩,
  ⟨(some 27), .pick (.t 24) (.c (.bool true)) (.t 26), none⟩] none)
 (.cond (.t 27) (.seq (.region [⟨(some 4), .mov (.c (.nils)), none⟩,
  ⟨(some 5), .mov (.c (.int .i64 1)), none⟩] none)
 (.ret))
 (.skip)))))
 (.region [⟨(some 28), .bin .add (.t 18) (.c (.int .i64 1)), none⟩,
  ⟨(some 18), .mov (.t 28), none⟩] none)))
-- pneumatic/guard.Which
def ic28 : IC := .seq (.region [⟨(some 2), .box (.t 0), none⟩,
  ⟨(some 4), .mov (.c (.nils)), none⟩,
  ⟨(some 5), .mov (.c (.int .i64 0)), none⟩] none)
 (.seq (.seq (.region [⟨(some 9), .load (some 1) (.t 2), none⟩,
  ⟨(some 10), .mov (.t 1), none⟩,
  ⟨(some 11), .len false (.t 10), none⟩,
  ⟨(some 12), .call (.c (.fn 80 [] [])) [(.t 9), (.t 11)], none⟩,
  ⟨(some 6), .mov (.t 12), none⟩] none)
 (.seq (.region [⟨(some 13), .mov (.t 6), none⟩,
  ⟨(some 14), .bin .neq (.t 13) (.c (.int .i64 0)), none⟩] none)
 (.cond (.t 14) (.seq (.region [⟨(some 15), .mov (.t 6), none⟩,
  ⟨(some 4), .mov (.c (.nils)), none⟩,
  ⟨(some 5), .mov (.t 15), none⟩] none)
 (.ret))
 (.skip))))
 (.seq (.seq (.region [⟨(some 16), .mov (.t 1), none⟩,
  ⟨(some 17), .len false (.t 16), none⟩,
  ⟨(some 18), .mov (.c (.int .i64 0)), none⟩] none)
 (.block 0 (.loop body28)))
 (.seq (.region [⟨(some 29), .faddr 0 (.t 2), none⟩,
  ⟨(some 30), .load none (.t 29), none⟩,
  ⟨(some 31), .mov (.t 1), none⟩,
  ⟨(some 32), .call (.c (.fn 83 [] [])) [(.t 30), (.t 31)], none⟩,
  ⟨(some 4), .mov (.t 32), none⟩,
  ⟨(some 5), .mov (.c (.int .i64 0)), none⟩] none)
 (.ret))))
theorem fn28 : env0.fn 28 = some ⟨33, ic28, [.t 4, .t 5]⟩ := by kernel_rfl
set_option maxHeartbeats 2000000 in
theorem zvw (l : List Ex) (hsl : ∀ y ∈ l, Slim y) (e : List Int) : PF Try.prog 28 [.agg [.vs (cXs l)], vsI e] (zr5 l e) := by
 have hce : (e.map fun z => ([.int .i64 z] : List AV)).length = e.length := List.length_map ..
 have h28 := zq7 l hsl e.length
 refine zb1 env0_ok fn28 [(0, .agg [.vs (cXs l)]), (1, vsI e)] (by show 2 ≤ 33; decide) rfl fun w0 N0 => ?_
 unfold ic28 zr5 posC
 repeat (first | refine za5 ?_ | refine za0 rfl ?_ | refine za4 ?_ | refine za2 ?_ | refine za3 rfl ?_ | refine zaw rfl rfl rfl rfl ?_ | refine zbk rfl rfl ?_ | refine zcq rfl rfl ?_)
 refine zas rfl (zhm rfl (congrArg (fun n : Nat => AV.int .i64 (n : Int)) hce)) h28 (fun h => Bool.noConfusion (show false = true from h)) ?_
 repeat (first | refine za5 ?_ | refine za0 rfl ?_ | refine za4 ?_ | refine za2 ?_ | refine za3 rfl ?_)
 refine zak rfl rfl rfl (fun h1 => ?_) fun h1 => ?_
 ·have h1 := bne_iff_ne.1 h1
  simp only [if_neg h1]
  repeat (first | refine za5 ?_ | refine za0 rfl ?_ | refine za4 ?_ | refine za2 ?_ | refine zb6 rfl ?_ | refine zaf ?_ | refine za6 ?_ | refine za3 rfl ?_)
  exact zad ⟨.inr rfl, _, rfl, rfl⟩
 have h1 : zc5 l e.length = 0 := by simpa using h1
 simp only [if_pos h1]
 obtain ⟨g1, g2, g3, g4⟩ := zjc h1
 have hel : e.length ≤ 6 := by omega
 have h53 := zvx l (by omega) e (by omega) (by omega) (fun y hy => by rw [zvm]; exact g4 y hy) hsl
 repeat (first | refine za5 ?_ | refine za0 rfl ?_ | refine za4 ?_ | refine za2 ?_ | refine zae ?_ | refine zab ?_ | refine zbi rfl ?_ | refine za3 rfl ?_ | refine zbk rfl rfl ?_)
 refine zcj (fun mm S => ∃ i, mm = e.length - i ∧ i ≤ e.length ∧ posL e = posL (e.drop i) ∧
   S = st 33 [(1, vsI e), (2, .mptr 0 0 0), (16, vsI e), (17, .int .i64 (e.map fun z => ([.int .i64 z] : List AV)).length), (18, .int .i64 (i : Nat))] [(0, 0, .cells [.vs (cXs l)])] 1 1) e.length
  (zam (.cons rfl (.cons rfl (.cons rfl (.cons rfl (.cons rfl .nil)))))) ⟨0, rfl, Nat.zero_le _, rfl, rfl⟩ ?_
 rintro mm S ⟨i, rfl, hi, hall, rfl⟩
 unfold body28
 repeat (first | refine za5 ?_ | refine za0 rfl ?_)
 refine zak rfl rfl rfl (fun h3 => ?_) fun h3 => ?_
 ·have hlt : i < e.length := by
   have := of_decide_eq_true h3
   rw [hce] at this
   omega
  have hdr : e.drop i = e[i] :: e.drop (i + 1) := List.drop_eq_getElem_cons hlt
  rw [hdr, posL] at hall
  have hge := zfl e i hlt
  generalize e[i] = z at hall hge
  repeat (first | refine za5 ?_ | refine za0 rfl ?_ | refine za4 ?_ | refine za2 ?_ | refine zae ?_ | refine zab ?_ | refine zb6 rfl ?_)
  refine zc2 rfl rfl (Int.natCast_nonneg i) hge rfl ?_
  repeat (first | refine za5 ?_ | refine za0 rfl ?_ | refine za4 ?_ | refine za2 ?_ | refine za3 rfl ?_ | refine zag rfl rfl ?_)
  refine zak rfl rfl rfl (fun h4 => ?_) fun h4 => ?_
  ·have h4 := of_decide_eq_true h4
   rw [if_pos (.inl h4)] at hall
   repeat (first | refine za5 ?_ | refine za0 rfl ?_ | refine za4 ?_ | refine za2 ?_ | refine zb6 rfl ?_ | refine zaf ?_ | refine za6 ?_ | refine zah ?_ | refine zdv rfl rfl ?_ | refine za3 rfl ?_ | refine zai rfl rfl ?_)
   refine zbq ?_
   repeat (first | refine za6 ?_ | refine zah ?_)
   refine zad ⟨.inr rfl, _, rfl, ?_⟩
   rw [ hall]
   rfl
  have h4 := of_decide_eq_false h4
  repeat (first | refine zc8 rfl ?_ | refine za3 rfl ?_)
  refine zak rfl rfl rfl (fun h5 => ?_) fun h5 => ?_
  ·have h5 := of_decide_eq_true h5
   rw [if_pos (.inr h5)] at hall
   repeat (first | refine za5 ?_ | refine za0 rfl ?_ | refine za4 ?_ | refine za2 ?_ | refine zb6 rfl ?_ | refine zaf ?_ | refine za6 ?_ | refine zah ?_ | refine za3 rfl ?_ | refine zac rfl rfl ?_)
   refine zbq ?_
   repeat (first | refine za6 ?_ | refine zah ?_)
   refine zad ⟨.inr rfl, _, rfl, ?_⟩
   rw [ hall]
   rfl
  have h5 := of_decide_eq_false h5
  rw [if_neg (fun h => h.elim h4 h5)] at hall
  repeat (first | refine za0 rfl ?_ | refine za4 ?_ | refine za2 ?_ | refine zbe ?_ | refine zab ?_ | refine zbi rfl ?_ | refine za3 rfl ?_ | refine zac rfl rfl ?_ | refine zao (op := .add) rfl rfl rfl ?_)
  rw [zb2 i (by omega)]
  exact zaz (show e.length - (i + 1) < e.length - i by omega) (zam (.cons rfl (.cons rfl (.cons rfl (.cons rfl (.cons rfl .nil)))))) ⟨i + 1, rfl, hlt, hall, rfl⟩
 ·have hi2 : i = e.length := by
   have := of_decide_eq_false h3
   rw [hce] at this
   omega
  rw [hi2, List.drop_length, posL] at hall
  repeat (first | refine za5 ?_ | refine za4 ?_ | refine za2 ?_ | refine zbi rfl ?_ | refine zc0 ?_ | refine zan ?_)
  refine zdk ?_
  repeat (first | refine za5 ?_ | refine za0 rfl ?_ | refine za2 ?_ | refine zby ?_ | refine za3 rfl ?_ | refine zag rfl rfl ?_ | refine zaa rfl ?_)
  refine zas rfl rfl h53 (fun h => Bool.noConfusion (show false = true from h)) ?_
  repeat (first | refine za4 ?_ | refine za2 ?_ | refine zaf ?_ | refine za3 rfl ?_)
  refine zad ⟨.inr rfl, _, rfl, ?_⟩
  rw [hall, if_pos rfl]
  rfl
end Go.Proofs.Ytoiblgbaeglgoaa
namespace Go.Proofs.Ytoiblgbaeglgoaa
open Go Go.Am
def zl3 (l : List Ex) (e : List Int) : AV := if posC l e = 0 then .tup [.bool (zek l e).isEmpty, .int .i64 0] else .tup [.bool false, .int .i64 (posC l e)]
theorem zn8 (l : List Int) : ((((l.map fun z => ([.int .i64 z] : List AV)).length : Nat) : Int) == 0) = l.isEmpty := by
 cases l with
 | nil => rfl
 | cons a t =>
  have : ¬ ((((a :: t).map fun z => ([.int .i64 z] : List AV)).length : Nat) : Int) = 0 := by
   rw [List.length_map, List.length_cons]; omega
  simpa using this
-- pneumatic/guard.Allowed
def ic25 : IC := .seq (.region [⟨(some 2), .box (.t 0), none⟩,
  ⟨(some 4), .mov (.c (.bool false)), none⟩,
  ⟨(some 5), .mov (.c (.int .i64 0)), none⟩] none)
 (.seq (.region [⟨(some 9), .load (some 1) (.t 2), none⟩,
  ⟨(some 10), .mov (.t 1), none⟩,
  ⟨(some 11), .call (.c (.fn 28 [] [])) [(.t 9), (.t 10)], none⟩,
  ⟨(some 8), .mov (.t 11), none⟩,
  ⟨(some 12), .extract (.t 8) 0, none⟩,
  ⟨(some 13), .extract (.t 8) 1, none⟩,
  ⟨(some 6), .mov (.t 12), none⟩,
  ⟨(some 7), .mov (.t 13), none⟩] none)
 (.seq (.region [⟨(some 14), .mov (.t 7), none⟩,
  ⟨(some 15), .bin .eql (.t 14) (.c (.int .i64 0)), none⟩,
  ⟨(some 16), .mov (.t 15), none⟩,
  ⟨(some 17), .mov (.t 6), some (16, true)⟩,
  ⟨(some 18), .len false (.t 17), some (16, true)⟩,
  ⟨(some 19), .bin .eql (.t 18) (.c (.int .i64 0)), some (16, true)⟩,
  ⟨(some 20), .pick (.t 16) (.t 19) (.c (.bool false)), none⟩,
  ⟨(some 21), .mov (.t 7), none⟩,
  ⟨(some 4), .mov (.t 20), none⟩,
  ⟨(some 5), .mov (.t 21), none⟩] none)
 (.ret)))
theorem fn25 : env0.fn 25 = some ⟨22, ic25, [.t 4, .t 5]⟩ := by kernel_rfl
set_option maxHeartbeats 2000000 in
theorem zsj (l : List Ex) (hsl : ∀ y ∈ l, Slim y) (e : List Int) : PF Try.prog 25 [.agg [.vs (cXs l)], vsI e] (zl3 l e) := by
 have h26 := zvw l hsl e
 refine zb1 env0_ok fn25 [(0, .agg [.vs (cXs l)]), (1, vsI e)] (by show 2 ≤ 22; decide) rfl fun w0 N0 => ?_
 unfold ic25 zl3
 unfold zr5 at h26
 repeat (first | refine za5 ?_ | refine za0 rfl ?_ | refine za4 ?_ | refine za2 ?_ | refine za3 rfl ?_ | refine zaw rfl rfl rfl rfl ?_ | refine zcq rfl rfl ?_)
 by_cases h1 : posC l e = 0
 ·rw [if_pos h1] at h26
  rw [if_pos h1]
  refine zas rfl rfl h26 (fun h => Bool.noConfusion (show false = true from h)) ?_
  repeat (first | refine za5 ?_ | refine za0 rfl ?_ | refine za4 ?_ | refine za2 ?_ | refine zc8 rfl ?_ | refine za3 rfl ?_ | refine zbk rfl rfl ?_ | refine zbg rfl rfl ?_ | refine zbu rfl rfl rfl ?_)
  refine zao (op := .eql) rfl rfl rfl ?_
  rw [zn8]
  repeat (first | refine za4 ?_ | refine za2 ?_ | refine zaf ?_ | refine za3 rfl ?_ | refine zai rfl rfl ?_)
  exact zad ⟨.inr rfl, _, rfl, rfl⟩
 ·rw [if_neg h1] at h26
  rw [if_neg h1]
  refine zas rfl rfl h26 (fun h => Bool.noConfusion (show false = true from h)) ?_
  repeat (first | refine za5 ?_ | refine za0 rfl ?_ | refine za4 ?_ | refine za2 ?_ | refine za3 rfl ?_ | refine zbg rfl rfl ?_)
  refine zak rfl rfl rfl (fun h2 => absurd (beq_iff_eq.1 h2) h1) fun _ => ?_
  repeat (first | refine za4 ?_ | refine za2 ?_ | refine zaf ?_ | refine zdv rfl rfl ?_ | refine za3 rfl ?_ | refine zac rfl rfl ?_)
  exact zad ⟨.inr rfl, _, rfl, rfl⟩
end Go.Proofs.Ytoiblgbaeglgoaa
namespace Go.Proofs.Ytoiblgbaeglgoaa
open Go Go.Am
def body20 : IC := .seq (.region [⟨(some 14), .bin .lss (.t 13) (.t 12), none⟩] none)
 (.seq (.cond (.t 14) (.skip)
 (.exit 0))
 (.seq (.block 1 (.seq (.region [⟨(some 15), .mov (.t 13), none⟩,
  ⟨(some 5), .mov (.t 15), none⟩] none)
 (.seq (.region [⟨(some 16), .mov (.t 0), none⟩,
  ⟨(some 17), .mov (.t 5), none⟩,
  ⟨(some 18), .idxs 1 (.t 16) (.t 17), none⟩,
  ⟨(some 19), .load none (.t 18), none⟩,
  ⟨(some 20), .mov (.t 1), none⟩,
  ⟨(some 21), .mov (.t 5), none⟩,
  ⟨(some 22), .idxs 1 (.t 20) (.t 21), none⟩,
  ⟨(some 23), .load none (.t 22), none⟩,
  ⟨(some 24), .bin .neq (.t 19) (.t 23), none⟩] (some [[], [], [0, 1], [2], [], [], [4, 5], [6], [3, 7]]))
 (.cond (.t 24) (.seq (.region [⟨(some 4), .mov (.c (.bool false)), none⟩] none)
 (.ret))
 (.skip)))))
 (.region [⟨(some 25), .bin .add (.t 13) (.c (.int .i64 1)), none⟩,
  ⟨(some 13), .mov (.t 25), none⟩] none)))
-- slices.Equal[[]int,int]
def ic20 : IC := .seq (.region [⟨(some 4), .mov (.c (.bool false)), none⟩] none)
 (.seq (.seq (.region [⟨(some 6), .mov (.t 0), none⟩,
  ⟨(some 7), .len false (.t 6), none⟩,
  ⟨(some 8), .mov (.t 1), none⟩,
  ⟨(some 9), .len false (.t 8), none⟩,
  ⟨(some 10), .bin .neq (.t 7) (.t 9), none⟩] none)
 (.cond (.t 10) (.seq (.region [⟨(some 4), .mov (.c (.bool false)), none⟩] none)
 (.ret))
 (.skip)))
 (.seq (.seq (.region [⟨(some 11), .mov (.t 0), none⟩,
  ⟨(some 12), .len false (.t 11), none⟩,
  ⟨(some 13), .mov (.c (.int .i64 0)), none⟩] none)
 (.block 0 (.loop body20)))
 (.seq (.region [⟨(some 4), .mov (.c (.bool true)), none⟩] none)
 (.ret))))
theorem fn20 : env0.fn 20 = some ⟨26, ic20, [.t 4]⟩ := by kernel_rfl
set_option maxHeartbeats 2000000 in
theorem equal16 (a b : List Int) (ha : a.length ≤ 100000) : PF Try.prog 20 [vsI a, vsI b] (.bool (decide (a = b))) := by
 have hca : (a.map fun z => ([.int .i64 z] : List AV)).length = a.length := List.length_map ..
 have hcb : (b.map fun z => ([.int .i64 z] : List AV)).length = b.length := List.length_map ..
 refine zb1 env0_ok fn20 [(0, vsI a), (1, vsI b)] (by show 2 ≤ 26; decide) rfl fun w0 N0 => ?_
 unfold ic20
 repeat (first | refine za5 ?_ | refine za0 rfl ?_ | refine za4 ?_ | refine za2 ?_ | refine za3 rfl ?_ | refine zbk rfl rfl ?_)
 refine zak rfl rfl rfl (fun h1 => ?_) fun h1 => ?_
 ·have h1 := bne_iff_ne.1 h1
  rw [hca, hcb] at h1
  rw [decide_eq_false (fun h => h1 (by rw [h]))]
  repeat (first | refine za5 ?_ | refine za0 rfl ?_ | refine za4 ?_ | refine za2 ?_ | refine zb6 rfl ?_ | refine zaf ?_ | refine za6 ?_ | refine za3 rfl ?_)
  exact zad ⟨.inr rfl, _, rfl, rfl⟩
 have h1 : (((a.map fun z => ([.int .i64 z] : List AV)).length : Nat) : Int) = ((b.map fun z => ([.int .i64 z] : List AV)).length : Nat) := by simpa using h1
 rw [hca, hcb] at h1
 have hab : a.length = b.length := by omega
 repeat (first | refine za5 ?_ | refine za0 rfl ?_ | refine za4 ?_ | refine za2 ?_ | refine zae ?_ | refine zab ?_ | refine zbi rfl ?_ | refine za3 rfl ?_ | refine zbk rfl rfl ?_)
 refine zcj (fun mm S => ∃ i, mm = a.length - i ∧ i ≤ a.length ∧ decide (a = b) = decide (a.drop i = b.drop i) ∧
   S = st 26 [(0, vsI a), (1, vsI b), (12, .int .i64 (a.map fun z => ([.int .i64 z] : List AV)).length), (13, .int .i64 (i : Nat))] [] 0 1) a.length
  (zeb (.cons rfl (.same rfl) (.cons rfl (.same rfl) (.cons rfl (.same rfl) (.cons rfl (.same rfl) .nil))))) ⟨0, rfl, Nat.zero_le _, rfl, rfl⟩ ?_
 rintro mm S ⟨i, rfl, hi, hall, rfl⟩
 unfold body20
 repeat (first | refine za5 ?_ | refine za0 rfl ?_)
 refine zak rfl rfl rfl (fun h3 => ?_) fun h3 => ?_
 ·have hlt : i < a.length := by
   have := of_decide_eq_true h3
   rw [hca] at this
   omega
  have hda : a.drop i = a[i] :: a.drop (i + 1) := List.drop_eq_getElem_cons hlt
  have hdb : b.drop i = b[i]'(by omega) :: b.drop (i + 1) := List.drop_eq_getElem_cons (by omega)
  rw [hda, hdb] at hall
  have hga := zfl a i hlt
  have hgb := zfl b i (by omega)
  generalize a[i] = x at hall hga
  generalize b[i]'(by omega) = y at hall hgb
  repeat (first | refine za5 ?_ | refine za0 rfl ?_ | refine za4 ?_ | refine za2 ?_ | refine zae ?_ | refine zab ?_ | refine zb6 rfl ?_ | refine za3 rfl ?_ | refine zfw env0_ok rfl rfl rfl ?_)
  refine zc2 rfl rfl (Int.natCast_nonneg i) hga rfl ?_
  repeat (first | refine za3 rfl ?_ | refine zag rfl rfl ?_)
  refine zc2 rfl rfl (Int.natCast_nonneg i) hgb rfl ?_
  repeat (first | refine zag rfl rfl ?_)
  refine zak rfl rfl rfl (fun h4 => ?_) fun h4 => ?_
  ·have h4 := bne_iff_ne.1 h4
   rw [hall, decide_eq_false (fun h => h4 (by injection h))]
   repeat (first | refine za5 ?_ | refine za0 rfl ?_ | refine za4 ?_ | refine za2 ?_ | refine zb6 rfl ?_ | refine zaf ?_ | refine za6 ?_ | refine zah ?_ | refine za3 rfl ?_)
   refine zbq ?_
   repeat (first | refine za6 ?_ | refine zah ?_)
   exact zad ⟨.inr rfl, _, rfl, rfl⟩
  ·have h4 : x = y := by simpa using h4
   repeat (first | refine za0 rfl ?_ | refine za4 ?_ | refine za2 ?_ | refine zbe ?_ | refine zab ?_ | refine zbi rfl ?_ | refine za3 rfl ?_ | refine zao (op := .add) rfl rfl rfl ?_)
   exact zaz (show a.length - (i + 1) < a.length - i by omega) (zeb (.cons rfl (.same rfl) (.cons rfl (.same rfl) (.cons rfl (.same rfl) (.cons rfl (zjr (congrArg (AV.int .i64) (zb2 i (by omega))) rfl) .nil))))) ⟨i + 1, rfl, hlt, by rw [hall, h4]; simp, rfl⟩
 ·have hi2 : i = a.length := by
   have := of_decide_eq_false h3
   rw [hca] at this
   omega
  rw [hi2, List.drop_length, hab, List.drop_length] at hall
  rw [hall]
  repeat (first | refine za5 ?_ | refine za4 ?_ | refine za2 ?_ | refine zbi rfl ?_ | refine zc0 ?_ | refine zan ?_)
  refine zdk ?_
  repeat (first | refine za5 ?_ | refine za0 rfl ?_ | refine za4 ?_ | refine za2 ?_ | refine zaf ?_ | refine zby ?_ | refine za3 rfl ?_)
  exact zad ⟨.inr rfl, _, rfl, rfl⟩
end Go.Proofs.Ytoiblgbaeglgoaa
namespace Go.Proofs.Ytoiblgbaeglgoaa
open Go Go.Am Go.ChangeShapes Go.WideShapes Go.ChangeAt Go.RowKit Go.Deep
section
variable {H : Type} {enc : TypeId × Value → H} {w : World} {base : Nat} {spare : Nat → Bool} {held : Bool}
theorem rdT : Rd enc Try.prog w base spare held 51 fun d => cX (exD d) :=
 rd_tree Try.underlying51 rfl Try.underlying3 (by kernel_rfl) Try.underlying22 (by kernel_rfl) (by rw [show Try.prog.cellsOf 51 = 3 from by kernel_rfl]; decide) (by kernel_rfl)
theorem rdG : Rd enc Try.prog w base spare held 24 (zed [zis fun d => cX (exD d)]) := by
 refine zv0 Try.underlying24 rfl (by kernel_rfl) fun i f g e1 e2 => ?_
 match i, e1, e2 with
 | 0, e1, e2 => injection e1 with e1; injection e2 with e2; subst e1 e2; exact rd_slice Try.underlying22 (by kernel_rfl) (by rw [show Try.prog.cellsOf 51 = 3 from by kernel_rfl]; decide) rdT
 | i + 1, e1, e2 => simp at e1
theorem slimG {n : Nat} {cs : List Value} {d : DataW H} {p : List MemPlace} (h : DataW.trod enc Try.prog w base spare held n 24 cs = some (d, p)) :
  (zds ((zcu d).headD .nil)).length < 9223372036854775808 ∧ ∀ x ∈ zds ((zcu d).headD .nil), Slim (exD x) := by
 obtain ⟨xs, n', _, hx, hlen, hxl, hall⟩ := DataW.trod_struct Try.underlying24 h
 simp only [Prod.mk.injEq] at hx
 obtain ⟨rfl, rfl⟩ := hx
 obtain ⟨x0, rfl⟩ : ∃ a, xs = [a] := by
  match xs, hxl with
  | [a], _ => exact ⟨a, rfl⟩
 have h2 := hall 0 _ rfl
 have h2' : _ = some x0 := h2
 show (zds x0.1).length < _ ∧ ∀ x ∈ zds x0.1, Slim (exD x)
 rcases Deep.open_slice Try.underlying22 h2' with ⟨_, hx⟩ | ⟨a, len, cap, m, n2, D, Pl, _, hb, hle, hm, hmm, hx, hel⟩
 ·subst hx
  exact ⟨by show 0 < _; decide, fun y hy => absurd hy List.not_mem_nil⟩
 ·subst hx
  have hlm : len ≤ m := by rw [hmm]; split <;> omega
  refine ⟨?_, fun x hx => ?_⟩
  ·show ((List.range len).map D).length < _
   rw [List.length_map, List.length_range]
   have : maxLen = 9223372036854775807 := rfl
   omega
  ·have hx' : x ∈ (List.range len).map D := hx
   obtain ⟨i, hi, rfl⟩ := List.mem_map.1 hx'
   obtain ⟨cs', h1, h3⟩ := hel i (by have := List.mem_range.1 hi; omega)
   exact zns Try.underlying51 rfl Try.underlying22 _ (D i) (Nat.le_refl _) _ _ _ h3
end
end Go.Proofs.Ytoiblgbaeglgoaa
namespace Go.Proofs.Ytoiblgbaeglgoaa
open Go Go.Am
end Go.Proofs.Ytoiblgbaeglgoaa
