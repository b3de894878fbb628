/-
  THE ORDER: sorted walked.
-/
import Derived.Test.YtoagikifehmlpaaQK1
import Derived.Test.YtoagikifehmlpaaQF8
import Derived.Test.YtoagikifehmlpaaQJ2
namespace Go.Proofs.Ytoagikifehmlpaa
open Go Go.Am
def b50_2 : IC := .seq (.region [⟨(some 25), .bin .lss (.t 24) (.t 23), none⟩] none)
 (.seq (.cond (.t 25) (.skip)
 (.exit 2))
 (.seq (.block 3 (.seq (.region [⟨(some 26), .idxs 1 (.t 22) (.t 24), none⟩,
  ⟨(some 27), .load none (.t 26), none⟩,
  ⟨(some 8), .mov (.t 27), none⟩] none)
 (.region [⟨(some 28), .mov (.t 4), none⟩,
  ⟨(some 29), .mov (.t 8), none⟩,
  ⟨(some 30), .idxs 1 (.t 28) (.t 29), none⟩,
  ⟨(some 31), .load none (.t 30), none⟩,
  ⟨(some 32), .bin .add (.t 31) (.c (.int .i64 1)), none⟩,
  ⟨(some 33), .idxs 1 (.t 28) (.t 29), none⟩,
  ⟨none, .store 1 (.t 33) (.t 32), none⟩] none)))
 (.region [⟨(some 34), .bin .add (.t 24) (.c (.int .i64 1)), none⟩,
  ⟨(some 24), .mov (.t 34), none⟩] none)))
def b50_0 : IC := .seq (.region [⟨(some 19), .bin .lss (.t 18) (.t 17), none⟩] none)
 (.seq (.cond (.t 19) (.skip)
 (.exit 0))
 (.seq (.block 1 (.seq (.region [⟨(some 20), .idxs 1 (.t 16) (.t 18), none⟩,
  ⟨(some 21), .load none (.t 20), none⟩,
  ⟨(some 6), .mov (.t 21), none⟩] none)
 (.seq (.region [⟨(some 22), .mov (.t 6), none⟩,
  ⟨(some 23), .len false (.t 22), none⟩,
  ⟨(some 24), .mov (.c (.int .i64 0)), none⟩] none)
 (.block 2 (.loop b50_2)))))
 (.region [⟨(some 35), .bin .add (.t 18) (.c (.int .i64 1)), none⟩,
  ⟨(some 18), .mov (.t 35), none⟩] none)))
def b50_6 : IC := .seq (.region [⟨(some 58), .bin .lss (.t 57) (.t 56), none⟩] none)
 (.seq (.cond (.t 58) (.skip)
 (.exit 6))
 (.seq (.block 7 (.seq (.region [⟨(some 59), .idxs 1 (.t 55) (.t 57), none⟩,
  ⟨(some 60), .load none (.t 59), none⟩,
  ⟨(some 12), .mov (.t 60), none⟩] none)
 (.region [⟨(some 61), .mov (.t 4), none⟩,
  ⟨(some 62), .mov (.t 12), none⟩,
  ⟨(some 63), .idxs 1 (.t 61) (.t 62), none⟩,
  ⟨(some 64), .load none (.t 63), none⟩,
  ⟨(some 65), .bin .sub (.t 64) (.c (.int .i64 1)), none⟩,
  ⟨(some 66), .idxs 1 (.t 61) (.t 62), none⟩,
  ⟨none, .store 1 (.t 66) (.t 65), none⟩] none)))
 (.region [⟨(some 67), .bin .add (.t 57) (.c (.int .i64 1)), none⟩,
  ⟨(some 57), .mov (.t 67), none⟩] none)))
def b50_4 : IC := .seq (.seq (.region [⟨(some 36), .mov (.t 9), none⟩,
  ⟨(some 37), .len false (.t 36), none⟩,
  ⟨(some 38), .mov (.t 0), none⟩,
  ⟨(some 39), .len false (.t 38), none⟩,
  ⟨(some 40), .bin .lss (.t 37) (.t 39), none⟩] none)
 (.cond (.t 40) (.skip)
 (.exit 4)))
 (.block 5 (.seq (.region [⟨(some 41), .mov (.t 4), none⟩,
  ⟨(some 42), .call (.c (.fn 26 [] [])) [(.t 41), (.c (.int .i64 0))], none⟩,
  ⟨(some 10), .mov (.t 42), none⟩] none)
 (.seq (.seq (.region [⟨(some 43), .mov (.t 10), none⟩,
  ⟨(some 44), .bin .lss (.t 43) (.c (.int .i64 0)), none⟩] none)
 (.cond (.t 44) (.seq (.region [⟨(some 2), .mov (.c (.nils)), none⟩,
  ⟨(some 3), .mov (.c (.bool false)), none⟩] none)
 (.ret))
 (.skip)))
 (.seq (.region [⟨(some 45), .mov (.t 4), none⟩,
  ⟨(some 46), .mov (.t 10), none⟩,
  ⟨(some 47), .idxs 1 (.t 45) (.t 46), none⟩,
  ⟨none, .store 1 (.t 47) (.c (.int .i64 (-1))), none⟩] none)
 (.seq (.region [⟨(some 48), .mov (.t 9), none⟩,
  ⟨(some 49), .mov (.t 10), none⟩,
  ⟨(some 50), .bslice 1 1 [.int .i64 0] [(0, 1, (.t 49))], none⟩,
  ⟨(some 51), .append 1 8 [.int .i64 0] (.t 48) (.t 50), none⟩,
  ⟨(some 9), .mov (.t 51), none⟩] none)
 (.seq (.region [⟨(some 52), .mov (.t 0), none⟩,
  ⟨(some 53), .mov (.t 10), none⟩,
  ⟨(some 54), .idxs 1 (.t 52) (.t 53), none⟩,
  ⟨(some 55), .load none (.t 54), none⟩,
  ⟨(some 56), .len false (.t 55), none⟩,
  ⟨(some 57), .mov (.c (.int .i64 0)), none⟩] none)
 (.block 6 (.loop b50_6))))))))
-- (pneumatic/digraph.net).sorted
def ic50 : IC := .seq (.region [⟨(some 2), .mov (.c (.nils)), none⟩,
  ⟨(some 3), .mov (.c (.bool false)), none⟩] none)
 (.seq (.region [⟨(some 13), .mov (.t 0), none⟩,
  ⟨(some 14), .len false (.t 13), none⟩,
  ⟨(some 15), .mkslice 1 8 [.int .i64 0] (.t 14) (.t 14), none⟩,
  ⟨(some 4), .mov (.t 15), none⟩] none)
 (.seq (.seq (.region [⟨(some 16), .mov (.t 0), none⟩,
  ⟨(some 17), .len false (.t 16), none⟩,
  ⟨(some 18), .mov (.c (.int .i64 0)), none⟩] none)
 (.block 0 (.loop b50_0)))
 (.seq (.region [⟨(some 9), .mov (.c (.nils)), none⟩] none)
 (.seq (.block 4 (.loop b50_4))
 (.seq (.region [⟨(some 68), .mov (.t 9), none⟩,
  ⟨(some 2), .mov (.t 68), none⟩,
  ⟨(some 3), .mov (.c (.bool true)), none⟩] none)
 (.ret))))))
theorem fn50 : env0.fn 50 = some ⟨69, ic50, [.t 2, .t 3]⟩ := by kernel_rfl
def srtV (E : List (Nat × Nat)) (m : Nat) : AV := match zm1 E m m [] with
 | some l => .tup [vsI (iL l), .bool true]
 | none => .tup [.vs [], .bool false]
def nxV : Option Nat → Int
 | some u => (u : Nat)
 | none => -1
theorem zib {α β : Type} (f : β → α → β) (o : β) {l : List α} {i : Nat} (h : i < l.length) : (l.take (i + 1)).foldl f o = f ((l.take i).foldl f o) l[i] := by
 rw [List.take_add_one, List.getElem?_eq_getElem h, List.foldl_append]
 rfl
theorem zn0 (E : List (Nat × Nat)) (m v : Nat) : (nbr E m v).length ≤ m := by
 unfold nbr
 exact Nat.le_trans (List.length_filter_le ..) (by rw [List.length_range]; exact Nat.le_refl _)
theorem zr0 {E : List (Nat × Nat)} {m v : Nat} (hv : v < m) : ((List.range m).map fun v => ([vN (nbr E m v)] : List AV))[((v : Nat) : Int).toNat]? = some [vN (nbr E m v)] := by
 rw [Int.toNat_natCast, List.getElem?_map, List.getElem?_range hv]
 rfl
theorem zto {l : List Nat} (h : l.Nodup) (i : Nat) : (l.take i).Nodup := (List.take_sublist i l).nodup h
theorem zf0 (l : List Nat) : (iL l).length = l.length := List.length_map ..
theorem iL_snoc (l : List Nat) (v : Nat) : iL (l ++ [v]) = iL l ++ [((v : Nat) : Int)] := by
 unfold iL
 rw [List.map_append]
 rfl
theorem zt6 (m : Nat) : AObj.cells (zev m [AV.int .i64 0]) = .cells ((List.replicate m (0 : Int)).map (AV.int .i64)) := by
 rw [zj8]
 congr 1
 refine List.ext_getElem (by simp) fun i h1 h2 => ?_
 simp
set_option maxHeartbeats 8000000 in
theorem sorted50 (m : Nat) (hm : m ≤ 256) (E : List (Nat × Nat)) (hb : ∀ u v, (u, v) ∈ E → u < m ∧ v < m) : PF Try.prog 50 [cN E m] (srtV E m) := by
 have ez : ∀ o : Nat, 0 + ((o : Nat) : Int).toNat * 1 = o := fun o => by simp
 have hb2 := fun u v h => (hb u v h).2
 have hlen : ((List.range m).map fun v => ([vN (nbr E m v)] : List AV)).length = m := by rw [List.length_map, List.length_range]
 refine zb4 env0_ok fn50 [(0, cN E m)] (by show 1 ≤ 69; decide) rfl fun w0 N0 => ?_
 unfold ic50
 refine zby [] [] [(0, cN E m)] rfl .nil .nil (.cons rfl (.same rfl) .nil) ?_
 repeat (first | refine za6 ?_ | refine za0 rfl ?_ | refine za5 ?_ | refine za3 ?_ | refine za2 rfl ?_ | refine zbf rfl rfl ?_)
 rw [hlen]
 refine o_mks rfl rfl ⟨Int.natCast_nonneg m, Int.le_refl _, by omega, by decide⟩ ?_
 repeat (first | refine za6 ?_ | refine za0 rfl ?_ | refine za5 ?_ | refine za3 ?_ | refine zae ?_ | refine za2 rfl ?_ | refine zbf rfl rfl ?_)
 refine zbx (fun mm S => ∃ i op hp nx ck, mm = m - i ∧ i ≤ m ∧ op.length = m ∧ (∀ v, v < m → gZ op v = (cntI E i v : Nat)) ∧ 0 < nx ∧ Am.look 0 hp = some (1, .cells (op.map (AV.int .i64))) ∧ S = st 69 [(0, cN E m), (4, .ms 0 1 1 0 m (some m)), (16, cN E m), (17, .int .i64 (m : Nat)), (18, .int .i64 (i : Nat))] hp nx ck) m
  (za9 (.cons rfl (.cons rfl (.cons rfl (.cons (by exact congrArg (fun z : Nat => some (AV.int .i64 (z : Nat))) hlen) (.cons rfl .nil)))))) ⟨0, List.replicate m 0, _, _, _, rfl, Nat.zero_le _, List.length_replicate .., fun v _ => gZ_rep m v, Nat.zero_lt_one, by rw [← zt6]; rfl, rfl⟩ ?_
 ·rintro mm S ⟨i, op, hp, nx, ck, rfl, hi, hol, hcnt, hnx, hk, rfl⟩
  unfold b50_0
  repeat (first | refine za6 ?_ | refine za0 rfl ?_)
  refine zau rfl rfl rfl (fun h3 => ?_) fun h3 => ?_
  ·have hlt : i < m := Int.ofNat_lt.1 (of_decide_eq_true h3)
   have w1 : IntKind.wrap .i64 (((i : Nat) : Int) + 1) = ((i + 1 : Nat) : Int) := zar i (by omega)
   have hgN := zr0 (E := E) hlt
   have hnl := zn0 E m i
   have hin : ∀ w ∈ nbr E m i, w < m := fun w hw => hb2 _ _ ((zc9 hb2).1 hw)
   have hst := fun j => addF 1 op ((nbr E m i).take j) (zto (zi4 E m i) j) fun w hw => by rw [hol]; exact hin w (List.mem_of_mem_take hw)
   have hfin : ∀ op', AddF 1 (nbr E m i) op op' → op'.length = m ∧ ∀ v, v < m → gZ op' v = (cntI E (i + 1) v : Nat) := fun op' h => ⟨h.len.trans hol, fun v hv => by
    rw [h.at_, hcnt v hv, zr6]
    by_cases c : (i, v) ∈ E
    ·rw [if_pos ((zc9 hb2).2 c), if_pos c]; omega
    ·rw [if_neg fun c2 => c ((zc9 hb2).1 c2), if_neg c]; omega⟩
   have hcl : ∀ v, v < m → 0 ≤ gZ op v ∧ gZ op v ≤ m := fun v hv => by rw [hcnt v hv]; have := cntI_le E i v; omega
   generalize nbr E m i = l at *
   repeat (first | refine za6 ?_ | refine za0 rfl ?_ | refine za5 ?_ | refine za3 ?_ | refine zae ?_ | refine zad ?_ | refine zcp rfl ?_ | refine za2 rfl ?_ | refine zaf rfl rfl ?_ | refine zbf rfl rfl ?_ | refine zaw rfl rfl (by omega) (by assumption) rfl ?_)
   refine zbx (fun mm S => ∃ j hp, mm = l.length - j ∧ j ≤ l.length ∧ Am.look 0 hp = some (1, .cells (((l.take j).foldl (zks 1) op).map (AV.int .i64))) ∧ S = st 69 [(0, cN E m), (4, .ms 0 1 1 0 m (some m)), (16, cN E m), (17, .int .i64 (m : Nat)), (18, .int .i64 (i : Nat)), (22, vN l), (23, .int .i64 ((l.map fun w => ([.int .i64 (w : Nat)] : List AV)).length : Nat)), (24, .int .i64 (j : Nat))] hp nx ck) l.length
    (za9 (.cons rfl (.cons rfl (.cons rfl (.cons rfl (.cons rfl (.cons rfl (.cons rfl (.cons rfl .nil))))))))) ⟨0, _, rfl, Nat.zero_le _, hk, rfl⟩ ?_
   rintro mm S ⟨j, hp, rfl, hj, hk, rfl⟩
   have hs := hst j
   have hol2 : ((l.take j).foldl (zks 1) op).length = m := hs.len.trans hol
   unfold b50_2
   repeat (first | refine za6 ?_ | refine za0 rfl ?_)
   refine zau rfl rfl rfl (fun h4 => ?_) fun h4 => ?_
   ·have hlt2 : j < l.length := by
     have h5 : ((j : Nat) : Int) < (((l.map fun w => ([.int .i64 (w : Nat)] : List AV)).length : Nat) : Int) := of_decide_eq_true h4
     rw [List.length_map] at h5
     exact Int.ofNat_lt.1 h5
    have w2 : IntKind.wrap .i64 (((j : Nat) : Int) + 1) = ((j + 1 : Nat) : Int) := zar j (by omega)
    have hgv := zlw hlt2
    have hxm := hin l[j] (List.getElem_mem hlt2)
    have hx : gZ ((l.take j).foldl (zks 1) op) l[j] ≤ m + 1 ∧ 0 ≤ gZ ((l.take j).foldl (zks 1) op) l[j] := by
     rw [hs.at_]
     have := hcl _ hxm
     split <;> omega
    have hts := zib (zks 1) op hlt2
    generalize (l.take j).foldl (zks 1) op = o at *
    generalize l[j] = x at *
    have w3 : IntKind.wrap .i64 (gZ o x + 1) = gZ o x + 1 := zda _ (by omega) (by omega)
    repeat (first | refine za6 ?_ | refine za0 rfl ?_ | refine za5 ?_ | refine za3 ?_ | refine zae ?_ | refine zad ?_ | refine zcp rfl ?_ | refine za2 rfl ?_ | refine zaf rfl rfl ?_ | refine zaw rfl rfl (by omega) (by assumption) rfl ?_ | refine zbu rfl rfl (by omega) (by omega) ?_)
    rw [ez]
    refine zb1 (id := 0) (sp := 1) (off := x) rfl hk hnx (gZ_get (by omega)) ?_
    repeat (first | refine zbe (op := .add) rfl rfl rfl ?_ | refine zbu rfl rfl (by omega) (by omega) ?_)
    rw [ez, w3]
    refine zdh (id := 0) (sp := 1) (off := x) rfl rfl rfl hk (by simp; omega) rfl ?_
    repeat (first | refine za0 rfl ?_ | refine za5 ?_ | refine za3 ?_ | refine zcb ?_ | refine za2 rfl ?_ | refine zbe (op := .add) rfl rfl rfl ?_)
    rw [w2]
    exact zay (show l.length - (j + 1) < l.length - j by omega) (za9 (.cons rfl (.cons rfl (.cons rfl (.cons rfl (.cons rfl (.cons rfl (.cons rfl (.cons rfl .nil))))))))) ⟨j + 1, _, rfl, hlt2, by rw [za7, if_pos rfl, ← List.map_set, hts]; rfl, rfl⟩
   ·have hje : j = l.length := by
     have h5 : ¬ ((j : Nat) : Int) < (((l.map fun w => ([.int .i64 (w : Nat)] : List AV)).length : Nat) : Int) := of_decide_eq_false h4
     rw [List.length_map] at h5
     omega
    subst hje
    rw [List.take_length] at hs hk
    obtain ⟨a1, a2⟩ := hfin _ hs
    repeat (first | refine za6 ?_ | refine za5 ?_ | refine za3 ?_ | refine zce rfl ?_ | refine zbw ?_ | refine zag ?_)
    refine zdb ?_
    repeat (first | refine za0 rfl ?_ | refine za5 ?_ | refine za3 ?_ | refine zcb ?_ | refine zbv ?_ | refine za2 rfl ?_ | refine zbe (op := .add) rfl rfl rfl ?_)
    rw [w1]
    exact zay (show m - (i + 1) < m - i by omega) (za9 (.cons rfl (.cons rfl (.cons rfl (.cons rfl (.cons rfl .nil)))))) ⟨i + 1, _, _, _, _, rfl, hlt, a1, a2, hnx, hk, rfl⟩
  ·have hie : i = m := by
    have h4 : ¬ ((i : Nat) : Int) < ((m : Nat) : Int) := of_decide_eq_false h3
    omega
   subst hie
   repeat (first | refine za6 ?_ | refine za5 ?_ | refine za3 ?_ | refine zce rfl ?_ | refine zbw ?_ | refine zag ?_)
   refine zdb ?_
   repeat (first | refine za6 ?_ | refine za0 rfl ?_ | refine za5 ?_ | refine za3 ?_ | refine zae ?_ | refine zbv ?_ | refine za2 rfl ?_)
   refine zbx (fun mm S => ∃ out op w hp nx ck, mm = i - out.length ∧ out.length ≤ i ∧ Top E i out ∧ zm1 E i (i - out.length) out = zm1 E i i [] ∧ Opn E i out op ∧ 0 < nx ∧ Am.look 0 hp = some (1, .cells (op.map (AV.int .i64))) ∧ Gv 0 (iL out) w hp nx ∧ S = st 69 [(0, cN E i), (4, .ms 0 1 1 0 i (some i)), (9, w)] hp nx ck) i
    (za9 (.cons rfl (.cons rfl (.cons rfl .nil)))) ⟨[], op, .nils, _, _, _, rfl, Nat.zero_le _, Top.nil E i, rfl, Opn.start hol hcnt, hnx, hk, .inl ⟨rfl, rfl⟩, rfl⟩ ?_
   rintro mm S ⟨out, op, w, hp, nx, ck, rfl, hol, hT, hS, hO, hnx, hk, hG, rfl⟩
   unfold b50_4
   repeat (first | refine za6 ?_ | refine za0 rfl ?_ | refine za2 rfl ?_)
   refine o_glen hG rfl ?_
   repeat (first | refine za2 rfl ?_ | refine zbf rfl rfl ?_)
   rw [zf0, hlen]
   refine zau rfl rfl rfl (fun h3 => ?_) fun h3 => ?_
   ·have hlt : out.length < i := Int.ofNat_lt.1 (of_decide_eq_true h3)
    have p26 := zk1 op 0 (by have := hO.len; omega)
    rw [show dnx (fun i => gZ op i == 0) op.length 0 = nxV (nxS E i out) from by
     unfold dnx
     rw [List.drop_zero, hO.find hb]
     unfold nxV
     rfl] at p26
    rw [show i - out.length = (i - out.length - 1) + 1 by omega, zm1] at hS
    repeat (first | refine za6 ?_ | refine za0 rfl ?_ | refine za5 ?_ | refine za3 ?_ | refine zae ?_ | refine zad ?_ | refine zcp rfl ?_ | refine za2 rfl ?_)
    refine zak rfl (zgb (zco (d := 3) op hO.len hk) rfl) p26 (fun _ => rfl) ?_
    repeat (first | refine za6 ?_ | refine za0 rfl ?_ | refine za5 ?_ | refine za3 ?_ | refine za2 rfl ?_)
    cases hx : nxS E i out with
    | none =>
     rw [hx] at hS
     have hV : srtV E i = .tup [.vs [], .bool false] := by unfold srtV; rw [← hS]
     rw [hV]
     refine zlm rfl rfl rfl ?_
     repeat (first | refine za6 ?_ | refine za0 rfl ?_ | refine za5 ?_ | refine za3 ?_ | refine zcp rfl ?_ | refine zaq ?_ | refine zac ?_ | refine zba ?_ | refine za2 rfl ?_)
     exact zao ⟨.inr rfl, _, rfl, rfl⟩
    | some x =>
    rw [hx] at hS
    obtain ⟨hxm, _, _⟩ := zsl hx
    have hT2 := hT.snoc hx
    have hO2 := hO.step hb hT hx
    have hgN := zr0 (E := E) hxm
    have hnl := zn0 E i x
    have hin : ∀ w ∈ nbr E i x, w < i := fun w hw => hb2 _ _ ((zc9 hb2).1 hw)
    have hst := fun j => addF (-1) (op.set x (-1)) ((nbr E i x).take j) (zto (zi4 E i x) j) fun w hw => by rw [List.length_set, hO.len]; exact hin w (List.mem_of_mem_take hw)
    have hcl : ∀ v, v < i → -1 ≤ gZ (op.set x (-1)) v ∧ gZ (op.set x (-1)) v ≤ i := fun v hv => by
     rw [zl8 (by rw [hO.len]; exact hxm)]
     split
     ·omega
     ·by_cases c : v ∈ out
      ·rw [hO.gone v c]; omega
      ·rw [hO.cnt v hv c]; have := cntO_le E i out v; omega
    generalize nbr E i x = l at *
    rw [show nxV (some x) = ((x : Nat) : Int) from rfl]
    refine zc0 rfl rfl (by show some (AV.bool (decide (((x : Nat) : Int) < 0))) = _; rw [decide_eq_false (by omega)]) ?_
    repeat (first | refine za6 ?_ | refine za0 rfl ?_ | refine za5 ?_ | refine za3 ?_ | refine zad ?_ | refine zce rfl ?_ | refine za2 rfl ?_ | refine zbu rfl rfl (by omega) (by omega) ?_)
    rw [ez]
    refine zdh (id := 0) (sp := 1) (off := x) rfl rfl rfl hk (by simp; have := hO.len; omega) rfl ?_
    rw [← List.map_set]
    have hG2 := (hG.put (Nat.le_refl 0) (1, .cells ((op.set x (-1)).map (AV.int .i64)))).fresh ck (.cells [.int .i64 (x : Nat)])
    repeat (first | refine za6 ?_ | refine za0 rfl ?_ | refine za5 ?_ | refine za3 ?_ | refine za2 rfl ?_ | refine zcl rfl rfl ?_)
    refine o_gapp hG2 (Nat.succ_pos _) (by rw [zf0]; omega) rfl rfl zb5 (by decide) fun w2 hp2 nx2 ck2 hG3 hnx2 hkp => ?_
    rw [← iL_snoc] at hG3
    have hk2 := hkp 0 (Nat.le_refl 0)
    rw [za8, if_neg (by omega), za7, if_pos rfl] at hk2
    repeat (first | refine za6 ?_ | refine za0 rfl ?_ | refine za5 ?_ | refine za3 ?_ | refine zae ?_ | refine za2 rfl ?_ | refine zaf rfl rfl ?_ | refine zbf rfl rfl ?_ | refine zaw rfl rfl (by omega) (by assumption) rfl ?_)
    refine zbx (fun mm S => ∃ j hp, mm = l.length - j ∧ j ≤ l.length ∧ Am.look 0 hp = some (1, .cells (((l.take j).foldl (zks (-1)) (op.set x (-1))).map (AV.int .i64))) ∧ Gv 0 (iL (out ++ [x])) w2 hp nx2 ∧ S = st 69 [(0, cN E i), (4, .ms 0 1 1 0 i (some i)), (9, w2), (55, vN l), (56, .int .i64 ((l.map fun w => ([.int .i64 (w : Nat)] : List AV)).length : Nat)), (57, .int .i64 (j : Nat))] hp nx2 ck2) l.length
     (za9 (.cons rfl (.cons rfl (.cons rfl (.cons rfl (.cons rfl (.cons rfl .nil))))))) ⟨0, _, rfl, Nat.zero_le _, hk2, hG3, rfl⟩ ?_
    rintro mm S ⟨j, hp, rfl, hj, hk, hG, rfl⟩
    have hs := hst j
    have hol2 : ((l.take j).foldl (zks (-1)) (op.set x (-1))).length = i := by rw [hs.len, List.length_set]; exact hO.len
    unfold b50_6
    repeat (first | refine za6 ?_ | refine za0 rfl ?_)
    refine zau rfl rfl rfl (fun h4 => ?_) fun h4 => ?_
    ·have hlt2 : j < l.length := by
      have h5 : ((j : Nat) : Int) < (((l.map fun w => ([.int .i64 (w : Nat)] : List AV)).length : Nat) : Int) := of_decide_eq_true h4
      rw [List.length_map] at h5
      exact Int.ofNat_lt.1 h5
     have w2 : IntKind.wrap .i64 (((j : Nat) : Int) + 1) = ((j + 1 : Nat) : Int) := zar j (by omega)
     have hgv := zlw hlt2
     have hym := hin l[j] (List.getElem_mem hlt2)
     have hy : -2 ≤ gZ ((l.take j).foldl (zks (-1)) (op.set x (-1))) l[j] ∧ gZ ((l.take j).foldl (zks (-1)) (op.set x (-1))) l[j] ≤ i := by
      rw [hs.at_]
      have := hcl _ hym
      split <;> omega
     have hts := zib (zks (-1)) (op.set x (-1)) hlt2
     generalize (l.take j).foldl (zks (-1)) (op.set x (-1)) = o at *
     generalize l[j] = y at *
     have w3 : IntKind.wrap .i64 (gZ o y - 1) = gZ o y + -1 := zda _ (by omega) (by omega)
     repeat (first | refine za6 ?_ | refine za0 rfl ?_ | refine za5 ?_ | refine za3 ?_ | refine zae ?_ | refine zad ?_ | refine zcp rfl ?_ | refine za2 rfl ?_ | refine zaf rfl rfl ?_ | refine zaw rfl rfl (by omega) (by assumption) rfl ?_ | refine zbu rfl rfl (by omega) (by omega) ?_)
     rw [ez]
     refine zb1 (id := 0) (sp := 1) (off := y) rfl hk hnx2 (gZ_get (by omega)) ?_
     repeat (first | refine zbe (op := .sub) rfl rfl rfl ?_ | refine zbu rfl rfl (by omega) (by omega) ?_)
     rw [ez, w3]
     refine zdh (id := 0) (sp := 1) (off := y) rfl rfl rfl hk (by simp; omega) rfl ?_
     repeat (first | refine za0 rfl ?_ | refine za5 ?_ | refine za3 ?_ | refine zcb ?_ | refine za2 rfl ?_ | refine zbe (op := .add) rfl rfl rfl ?_)
     rw [w2]
     exact zay (show l.length - (j + 1) < l.length - j by omega) (za9 (.cons rfl (.cons rfl (.cons rfl (.cons rfl (.cons rfl (.cons rfl .nil))))))) ⟨j + 1, _, rfl, hlt2, by rw [za7, if_pos rfl, ← List.map_set, hts]; rfl, hG.put (Nat.le_refl 0) _, rfl⟩
    ·have hje : j = l.length := by
      have h5 : ¬ ((j : Nat) : Int) < (((l.map fun w => ([.int .i64 (w : Nat)] : List AV)).length : Nat) : Int) := of_decide_eq_false h4
      rw [List.length_map] at h5
      omega
     subst hje
     rw [List.take_length] at hk
     repeat (first | refine za6 ?_ | refine za5 ?_ | refine za3 ?_ | refine zce rfl ?_ | refine zbw ?_ | refine zag ?_)
     refine zdb ?_
     repeat (first | refine zcb ?_ | refine zbv ?_)
     exact zay (show i - (out ++ [x]).length < i - out.length by rw [List.length_append, List.length_singleton]; omega) (za9 (.cons rfl (.cons rfl (.cons rfl .nil)))) ⟨_, _, _, _, _, _, rfl, by rw [List.length_append, List.length_singleton]; omega, hT2, by rw [List.length_append, List.length_singleton, ← hS, Nat.sub_sub], hO2, hnx2, hk, hG, rfl⟩
   ·have hie : out.length = i := by
     have h4 : ¬ ((out.length : Nat) : Int) < ((i : Nat) : Int) := of_decide_eq_false h3
     omega
    rw [hie, Nat.sub_self] at hS
    have hV : srtV E i = .tup [vsI (iL out), .bool true] := by unfold srtV; rw [← hS]; rfl
    rw [hV]
    repeat (first | refine za5 ?_ | refine za3 ?_ | refine zce rfl ?_ | refine zbw ?_ | refine zag ?_)
    refine zdb ?_
    repeat (first | refine za6 ?_ | refine za0 rfl ?_ | refine za5 ?_ | refine za3 ?_ | refine zaq ?_ | refine zbv ?_ | refine za2 rfl ?_)
    refine zao ⟨.inr rfl, _, rfl, ?_⟩
    exact congrArg AV.tup (zgb hG.view rfl)
end Go.Proofs.Ytoagikifehmlpaa
