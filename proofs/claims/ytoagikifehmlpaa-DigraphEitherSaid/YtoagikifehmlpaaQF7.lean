/-
  THE DISTANCES FROM A VERTEX: far walked.
-/
import Derived.Test.YtoagikifehmlpaaQF6
namespace Go.Proofs.Ytoagikifehmlpaa
open Go Go.Am
def b48_2 : IC := .seq (.region [⟨(some 31), .bin .lss (.t 30) (.t 29), none⟩] none)
 (.seq (.cond (.t 31) (.skip)
 (.exit 2))
 (.seq (.block 3 (.seq (.region [⟨(some 32), .idxs 1 (.t 28) (.t 30), none⟩,
  ⟨(some 33), .load none (.t 32), none⟩,
  ⟨(some 8), .mov (.t 33), none⟩] none)
 (.seq (.region [⟨(some 34), .mov (.t 5), none⟩,
  ⟨(some 35), .mov (.t 8), none⟩,
  ⟨(some 36), .idxs 1 (.t 34) (.t 35), none⟩,
  ⟨(some 37), .load none (.t 36), none⟩,
  ⟨(some 38), .bin .lss (.t 37) (.c (.int .i64 0)), none⟩] none)
 (.cond (.t 38) (.seq (.region [⟨(some 39), .mov (.t 5), none⟩,
  ⟨(some 40), .mov (.t 8), none⟩,
  ⟨(some 41), .mov (.t 5), none⟩,
  ⟨(some 42), .mov (.t 6), none⟩,
  ⟨(some 43), .idxs 1 (.t 42) (.c (.int .i64 0)), none⟩,
  ⟨(some 44), .load none (.t 43), none⟩,
  ⟨(some 45), .idxs 1 (.t 41) (.t 44), none⟩,
  ⟨(some 46), .load none (.t 45), none⟩,
  ⟨(some 47), .bin .add (.t 46) (.c (.int .i64 1)), none⟩,
  ⟨(some 48), .idxs 1 (.t 39) (.t 40), none⟩,
  ⟨none, .store 1 (.t 48) (.t 47), none⟩] none)
 (.region [⟨(some 49), .mov (.t 6), none⟩,
  ⟨(some 50), .mov (.t 8), none⟩,
  ⟨(some 51), .bslice 1 1 [.int .i64 0] [(0, 1, (.t 50))], none⟩,
  ⟨(some 52), .append 1 8 [.int .i64 0] (.t 49) (.t 51), none⟩,
  ⟨(some 6), .mov (.t 52), none⟩] none))
 (.skip)))))
 (.region [⟨(some 53), .bin .add (.t 30) (.c (.int .i64 1)), none⟩,
  ⟨(some 30), .mov (.t 53), none⟩] none)))
def b48_0 : IC := .seq (.seq (.region [⟨(some 18), .mov (.t 6), none⟩,
  ⟨(some 19), .len false (.t 18), none⟩,
  ⟨(some 20), .bin .gtr (.t 19) (.c (.int .i64 0)), none⟩] none)
 (.cond (.t 20) (.skip)
 (.exit 0)))
 (.seq (.block 1 (.seq (.region [⟨(some 23), .mov (.t 0), none⟩,
  ⟨(some 24), .mov (.t 6), none⟩,
  ⟨(some 25), .idxs 1 (.t 24) (.c (.int .i64 0)), none⟩,
  ⟨(some 26), .load none (.t 25), none⟩,
  ⟨(some 27), .idxs 1 (.t 23) (.t 26), none⟩,
  ⟨(some 28), .load none (.t 27), none⟩,
  ⟨(some 29), .len false (.t 28), none⟩,
  ⟨(some 30), .mov (.c (.int .i64 0)), none⟩] none)
 (.block 2 (.loop b48_2))))
 (.region [⟨(some 21), .mov (.t 6), none⟩,
  ⟨(some 22), .slsl 1 (.t 21) (some (.c (.int .i64 1))) none none, none⟩,
  ⟨(some 6), .mov (.t 22), none⟩] none))
-- (pneumatic/digraph.net).far
def ic48 : IC := .seq (.region [⟨(some 4), .mov (.c (.nils)), none⟩] none)
 (.seq (.region [⟨(some 9), .bslice 1 1 [.int .i64 0] [(0, 1, (.c (.int .i64 (-1))))], none⟩,
  ⟨(some 10), .mov (.t 0), none⟩,
  ⟨(some 11), .len false (.t 10), none⟩,
  ⟨(some 12), .call (.c (.fn 61 [] [])) [(.t 9), (.t 11)], none⟩,
  ⟨(some 5), .mov (.t 12), none⟩] none)
 (.seq (.region [⟨(some 13), .mov (.t 5), none⟩,
  ⟨(some 14), .mov (.t 1), none⟩,
  ⟨(some 15), .idxs 1 (.t 13) (.t 14), none⟩,
  ⟨none, .store 1 (.t 15) (.c (.int .i64 0)), none⟩] none)
 (.seq (.seq (.region [⟨(some 16), .mov (.t 1), none⟩,
  ⟨(some 17), .bslice 1 1 [.int .i64 0] [(0, 1, (.t 16))], none⟩,
  ⟨(some 6), .mov (.t 17), none⟩] none)
 (.block 0 (.loop b48_0)))
 (.seq (.region [⟨(some 54), .mov (.t 5), none⟩,
  ⟨(some 4), .mov (.t 54), none⟩] none)
 (.ret)))))
theorem fn48 : env0.fn 48 = some ⟨55, ic48, [.t 4]⟩ := by kernel_rfl
theorem gI_get {o : List Int} {v : Nat} (h : v < o.length) : (o.map (AV.int .i64))[v]? = some (.int .i64 (gI o v)) := by
 unfold gI
 rw [List.getElem?_map, List.getD_eq_getElem?_getD, List.getElem?_eq_getElem h]
 rfl
theorem zdq : ∀ l : List Int, flat.flatL (l.map (AV.int .i64)) = true
 | [] => rfl
 | z :: l => by
  rw [List.map_cons]
  show (flat (AV.int .i64 z) && flat.flatL (l.map (AV.int .i64))) = true
  rw [zdq l]
  rfl
theorem unl_le (o : List Int) : unl o ≤ o.length := List.length_filter_le ..
def t48 (E : List (Nat × Nat)) (m : Nat) (qv : AV) (l : List Nat) (i : Nat) : List (Nat × AV) := [(0, cN E m), (5, .ms 1 2 1 0 m (some m)), (6, qv), (28, vN l), (29, .int .i64 ((l.map fun w => ([.int .i64 (w : Nat)] : List AV)).length : Nat)), (30, .int .i64 (i : Nat))]
set_option maxHeartbeats 4000000 in
theorem far48 (m : Nat) (hm : m ≤ 12) (E : List (Nat × Nat)) (hb : ∀ u v, (u, v) ∈ E → u < m ∧ v < m) (f : Nat) (hf : f < m) : PF Try.prog 48 [cN E m, .int .i64 (f : Nat)] (vsI (zcx E m f m)) := by
 have ez : ∀ o : Nat, 0 + ((o : Nat) : Int).toNat * 1 = o := fun o => by simp
 have hlen : ((List.range m).map fun v => ([vN (nbr E m v)] : List AV)).length = m := by rw [List.length_map, List.length_range]
 have hb2 := fun u v h => (hb u v h).2
 refine zb4 env0_ok fn48 [(0, cN E m), (1, .int .i64 (f : Nat))] (by show 2 ≤ 55; decide) rfl fun w0 N0 => ?_
 unfold ic48
 refine zby [] [] [(0, cN E m), (1, .int .i64 (f : Nat))] rfl .nil .nil (.cons rfl (.same rfl) (.cons rfl (.same rfl) .nil)) ?_
 repeat (first | refine za6 ?_ | refine za0 rfl ?_ | refine za5 ?_ | refine za3 ?_ | refine za2 rfl ?_ | refine zbf rfl rfl ?_ | refine zcl rfl rfl ?_)
 rw [hlen]
 refine o_own rfl rfl (repeat61 hm) (zdq _) ?_
 repeat (first | refine za6 ?_ | refine za0 rfl ?_ | refine za5 ?_ | refine za3 ?_ | refine za2 rfl ?_ | refine zbu rfl rfl (by omega) (by omega) ?_)
 rw [ez]
 refine zdh (id := 1) (sp := 2) (off := f) rfl rfl rfl rfl (by simp; exact hf) rfl ?_
 repeat (first | refine za6 ?_ | refine za0 rfl ?_ | refine za5 ?_ | refine za3 ?_ | refine zae ?_ | refine za2 rfl ?_ | refine zcl rfl rfl ?_)
 have hF0 : Fq ((List.replicate m (-1 : Int)).set f 0) [f] (.ms 2 3 1 0 1 (some 1)) ((2, 3, .cells [.int .i64 (f : Nat)]) :: zca 1 (2, .cells (((List.replicate m (-1 : Int)).map (AV.int .i64)).set f (.int .i64 0))) [(1, 2, .cells ((List.replicate m (-1 : Int)).map (AV.int .i64))), (0, 1, .cells [.int .i64 (-1)])]) 3 :=
  ⟨by rw [za8, if_neg (by decide), za7, if_pos rfl, ← List.map_set], by decide, .lit f rfl zb5 (by decide) (by decide)⟩
 have hu0 := unl_le ((List.replicate m (-1 : Int)).set f 0)
 rw [List.length_set, List.length_replicate] at hu0
 refine zbx (fun mm S => ∃ o q qv hp nx ck, mm = 2 * unl o + q.length ∧ mm ≤ 100 ∧ Bfs E m f o q ∧ Fq o q qv hp nx ∧ S = st 55 [(0, cN E m), (5, .ms 1 2 1 0 m (some m)), (6, qv)] hp nx ck) (2 * unl ((List.replicate m (-1 : Int)).set f 0) + 1)
  (za9 (.cons rfl (.cons rfl (.cons rfl .nil)))) ⟨_, _, _, _, _, _, rfl, by omega, Bfs.start E hf, hF0, rfl⟩ ?_
 rintro mm S ⟨o, q, qv, hp, nx, ck, rfl, hmm, hB, hF, rfl⟩
 unfold b48_0
 repeat (first | refine za6 ?_ | refine za0 rfl ?_ | refine za2 rfl ?_)
 refine o_qlen hF rfl ?_
 refine zau rfl rfl rfl (fun h3 => ?_) fun h3 => ?_
 ·obtain ⟨a, qs, rfl⟩ : ∃ a qs, q = a :: qs := by
   cases q with
   | nil => exact absurd (of_decide_eq_true h3) (by decide)
   | cons a qs => exact ⟨a, qs, rfl⟩
  have ha0 := hB.inq a (List.mem_cons_self ..)
  have ham : a < m := hB.len ▸ gI_lt ha0
  have halt := ziu hB.len hB.down a
  have hga : ((List.range m).map fun v => ([vN (nbr E m v)] : List AV))[((a : Nat) : Int).toNat]? = some [vN (nbr E m a)] := by
   rw [Int.toNat_natCast, List.getElem?_map, List.getElem?_range ham]
   rfl
  have hmem : ∀ v, v ∈ nbr E m a ↔ (a, v) ∈ E := fun v => zc9 hb2
  have hmN : ∀ v ∈ nbr E m a, v < m := fun v hv => hb2 _ _ ((hmem v).1 hv)
  obtain ⟨o9, new9, e9, hB9, hm9, _⟩ := hB.step hmem hmN
  have hvf := fun i => zp1 (d := gI o a + 1) (by omega) o qs ((nbr E m a).take i) fun v hv => by rw [hB.len]; exact hmN v (List.mem_of_mem_take hv)
  have hbig : (nbr E m a).length ≤ m := by
   unfold nbr
   refine Nat.le_trans (List.length_filter_le ..) ?_
   rw [List.length_range]
   exact Nat.le_refl _
  generalize nbr E m a = l at *
  repeat (first | refine za6 ?_ | refine za0 rfl ?_ | refine za5 ?_ | refine za3 ?_ | refine zae ?_ | refine zad ?_ | refine zcp rfl ?_ | refine za2 rfl ?_)
  refine zsm hF rfl fun p => ?_
  repeat (first | refine za5 ?_ | refine za3 ?_ | refine zae ?_ | refine za2 rfl ?_ | refine zaf rfl rfl ?_ | refine zbf rfl rfl ?_ | refine zaw rfl rfl (by omega) (by assumption) rfl ?_)
  refine zbx (fun mm S => ∃ i o' new qv hp nx ck, mm = l.length - i ∧ i ≤ l.length ∧ (l.take i).foldl (vis (gI o a + 1)) (o, qs) = (o', qs ++ new) ∧ Fq o' (a :: (qs ++ new)) qv hp nx ∧ S = st 55 (t48 E m qv l i) hp nx ck) l.length
   (za9 (.cons rfl (.cons rfl (.cons rfl (.cons rfl (.cons rfl (.cons rfl .nil))))))) ⟨0, o, [], _, _, _, _, rfl, Nat.zero_le _, by rw [List.append_nil]; rfl, by rw [List.append_nil]; exact hF, rfl⟩ ?_
  rintro mm S ⟨i, o', new, qv, hp, nx, ck, rfl, hi, hfo, hF, rfl⟩
  unfold b48_2 t48
  repeat (first | refine za6 ?_ | refine za0 rfl ?_)
  obtain ⟨o2, new2, e2, hx⟩ := hvf i
  obtain ⟨rfl, hnn⟩ : o' = o2 ∧ qs ++ new = qs ++ new2 := by rw [hfo] at e2; exact ⟨congrArg Prod.fst e2, congrArg Prod.snd e2⟩
  obtain rfl := List.append_cancel_left hnn
  have hol : o'.length = m := hx.len.trans hB.len
  have hcnt := hx.cnt
  rw [List.length_cons] at hmm
  refine zau rfl rfl rfl (fun h4 => ?_) fun h4 => ?_
  ·have hlt : i < l.length := by
    have h5 : ((i : Nat) : Int) < (((l.map fun w => ([.int .i64 (w : Nat)] : List AV)).length : Nat) : Int) := of_decide_eq_true h4
    rw [List.length_map] at h5
    exact Int.ofNat_lt.1 h5
   have w1 : IntKind.wrap .i64 (((i : Nat) : Int) + 1) = ((i + 1 : Nat) : Int) := zar i (by omega)
   have hgv : (l.map fun w => ([.int .i64 (w : Nat)] : List AV))[((i : Nat) : Int).toNat]? = some [.int .i64 (l[i] : Nat)] := by
    rw [Int.toNat_natCast, List.getElem?_map, List.getElem?_eq_getElem hlt]
    rfl
   have hvm := hmN l[i] (List.getElem_mem hlt)
   have hfs : (l.take (i + 1)).foldl (vis (gI o a + 1)) (o, qs) = vis (gI o a + 1) (o', qs ++ new) l[i] := by
    rw [List.take_add_one, List.getElem?_eq_getElem hlt]
    show (l.take i ++ [l[i]]).foldl _ _ = _
    rw [List.foldl_append, hfo]
    rfl
   generalize l[i] = v at *
   have hva : gI o' a = gI o a := hx.old a ha0
   repeat (first | refine za6 ?_ | refine za0 rfl ?_ | refine za5 ?_ | refine za3 ?_ | refine zae ?_ | refine zad ?_ | refine zcp rfl ?_ | refine za2 rfl ?_ | refine zaf rfl rfl ?_ | refine zaw rfl rfl (by omega) (by assumption) rfl ?_ | refine zbu rfl rfl (by omega) (by omega) ?_)
   rw [ez]
   refine zb1 (id := 1) (sp := 2) (off := v) rfl hF.out hF.nx1 (gI_get (by omega)) ?_
   refine zau rfl rfl rfl (fun h5 => ?_) fun h5 => ?_
   ·have h5 : gI o' v < 0 := of_decide_eq_true h5
    have w2 : IntKind.wrap .i64 (gI o a + 1) = gI o a + 1 := zda _ (by omega) (by omega)
    have hv1 : vis (gI o a + 1) (o', qs ++ new) v = (o'.set v (gI o a + 1), qs ++ new ++ [v]) := if_pos h5
    rw [hv1] at hfs
    repeat (first | refine za6 ?_ | refine za0 rfl ?_ | refine za5 ?_ | refine za3 ?_ | refine zcp rfl ?_ | refine za2 rfl ?_)
    refine zsm hF rfl fun p => ?_
    repeat (first | refine zbu rfl rfl (by omega) (by omega) ?_)
    rw [ez]
    refine zb1 (id := 1) (sp := 2) (off := a) rfl hF.out hF.nx1 (gI_get (by omega)) ?_
    rw [hva]
    repeat (first | refine zbe (op := .add) rfl rfl rfl ?_ | refine zbu rfl rfl (by omega) (by omega) ?_)
    rw [ez, w2]
    refine zdh (id := 1) (sp := 2) (off := v) rfl rfl rfl hF.out (by simp; omega) rfl ?_
    repeat (first | refine za0 rfl ?_ | refine za5 ?_ | refine za3 ?_ | refine za2 rfl ?_ | refine zcl rfl rfl ?_)
    have hF2 := (hF.set v (gI o a + 1)).fresh ck (.cells [.int .i64 (v : Nat)])
    refine o_qapp hF2 (List.cons_ne_nil _ _) (by rw [List.length_cons, List.length_append]; rw [List.length_append] at hm9; omega) rfl rfl zb5 (by decide) fun qv' hp' nx' ck' hF' => ?_
    repeat (first | refine za0 rfl ?_ | refine za5 ?_ | refine za3 ?_ | refine zcb ?_ | refine za2 rfl ?_ | refine zbe (op := .add) rfl rfl rfl ?_)
    rw [w1]
    refine zay (show l.length - (i + 1) < l.length - i by omega) (za9 (.cons rfl (.cons rfl (.cons rfl (.cons rfl (.cons rfl (.cons rfl .nil))))))) ⟨i + 1, _, new ++ [v], _, _, _, _, rfl, hlt, by rw [hfs, List.append_assoc], ?_, rfl⟩
    rw [← List.append_assoc]
    exact hF'
   ·have h5 : ¬ gI o' v < 0 := of_decide_eq_false h5
    have hv1 : vis (gI o a + 1) (o', qs ++ new) v = (o', qs ++ new) := if_neg h5
    rw [hv1] at hfs
    repeat (first | refine za0 rfl ?_ | refine za5 ?_ | refine za3 ?_ | refine zcb ?_ | refine zad ?_ | refine zce rfl ?_ | refine za2 rfl ?_ | refine zbe (op := .add) rfl rfl rfl ?_)
    rw [w1]
    exact zay (show l.length - (i + 1) < l.length - i by omega) (za9 (.cons rfl (.cons rfl (.cons rfl (.cons rfl (.cons rfl (.cons rfl .nil))))))) ⟨i + 1, _, new, _, _, _, _, rfl, hlt, hfs, hF, rfl⟩
  ·have hie : i = l.length := by
    have h5 : ¬ ((i : Nat) : Int) < (((l.map fun w => ([.int .i64 (w : Nat)] : List AV)).length : Nat) : Int) := of_decide_eq_false h4
    rw [List.length_map] at h5
    omega
   subst hie
   rw [List.take_length, e9] at hfo
   obtain ⟨rfl, hnn⟩ : o9 = o' ∧ qs ++ new9 = qs ++ new := ⟨congrArg Prod.fst hfo, congrArg Prod.snd hfo⟩
   obtain rfl := List.append_cancel_left hnn
   repeat (first | refine za6 ?_ | refine za5 ?_ | refine za3 ?_ | refine zce rfl ?_ | refine zbw ?_ | refine zag ?_)
   refine zdb ?_
   repeat (first | refine za0 rfl ?_ | refine za3 ?_ | refine zcb ?_ | refine zbv ?_ | refine za2 rfl ?_)
   refine o_qcut hF rfl fun qv' hF' => ?_
   repeat (first | refine za5 ?_ | refine za2 rfl ?_)
   exact zay hm9 (za9 (.cons rfl (.cons rfl (.cons rfl .nil)))) ⟨_, _, _, _, _, _, rfl, by rw [List.length_cons] at hm9; omega, hB9, hF', rfl⟩
 ·obtain rfl : q = [] := by
   cases q with
   | nil => rfl
   | cons a qs =>
    have h4 : ¬ (((a :: qs).length : Nat) : Int) > 0 := of_decide_eq_false h3
    rw [List.length_cons] at h4
    omega
  have he := hB.end.unique (zd4 hf hb2)
  subst he
  repeat (first | refine za5 ?_ | refine za3 ?_ | refine zce rfl ?_ | refine zbw ?_ | refine zag ?_)
  refine zdb ?_
  repeat (first | refine za6 ?_ | refine za0 rfl ?_ | refine za5 ?_ | refine za3 ?_ | refine zaq ?_ | refine zbv ?_ | refine za2 rfl ?_)
  refine zao ⟨.inr rfl, _, rfl, ?_⟩
  exact zco _ (by have := hB.len; exact this) hF.out
end Go.Proofs.Ytoagikifehmlpaa
