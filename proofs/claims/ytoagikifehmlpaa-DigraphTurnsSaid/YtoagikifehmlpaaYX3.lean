/-
  THE ORDER: sorted walked.; THE SEARCH INTO THE DEPTH: the closure visit walked.; THE SEARCH IN THE OTHER DIRECTION: the closure collect walked.; REGIONS IN ALL THEIR ORDERS BY AN INVARIANT.; COMPONENTS: the region that makes the two lists of neighbours.; COMPONENTS of the example: the region walked, the rest run.; THE EXAMPLES OF THE CHAPTER.; slices.Contains on numbers and on edges; right.; THE L
-/
import Derived.Test.YtoagikifehmlpaaYX2
namespace Go.Proofs.Ytoagikifehmlpaa
open Go Go.Am
def b50_2 : IC := .seq (.region [⟨(some 25), .bin .lss (.t 24) (.t 23), none⟩] none)
 (.seq (.cond (.t 25) (.skip)
 (.exit 2))
 (.seq (.block 3 (.seq (.region [⟨(some 26), .idxs 1 (.t 22) (.t 24), none⟩,
  ⟨(some 27), .load none (.t 26), none⟩,
  ⟨(some 8), .mov (.t 27), none⟩] none)
 (.region [⟨(some 28), .mov (.t 4), none⟩,
  ⟨(some 29), .mov (.t 8), none⟩,
  ⟨(some 30), .idxs 1 (.t 28) (.t 29), none⟩,
  ⟨(some 31), .load none (.t 30), none⟩,
  ⟨(some 32), .bin .add (.t 31) (.c (.int .i64 1)), none⟩,
  ⟨(some 33), .idxs 1 (.t 28) (.t 29), none⟩,
  ⟨none, .store 1 (.t 33) (.t 32), none⟩] none)))
 (.region [⟨(some 34), .bin .add (.t 24) (.c (.int .i64 1)), none⟩,
  ⟨(some 24), .mov (.t 34), none⟩] none)))
def b50_0 : IC := .seq (.region [⟨(some 19), .bin .lss (.t 18) (.t 17), none⟩] none)
 (.seq (.cond (.t 19) (.skip)
 (.exit 0))
 (.seq (.block 1 (.seq (.region [⟨(some 20), .idxs 1 (.t 16) (.t 18), none⟩,
  ⟨(some 21), .load none (.t 20), none⟩,
  ⟨(some 6), .mov (.t 21), none⟩] none)
 (.seq (.region [⟨(some 22), .mov (.t 6), none⟩,
  ⟨(some 23), .len false (.t 22), none⟩,
  ⟨(some 24), .mov (.c (.int .i64 0)), none⟩] none)
 (.block 2 (.loop b50_2)))))
 (.region [⟨(some 35), .bin .add (.t 18) (.c (.int .i64 1)), none⟩,
  ⟨(some 18), .mov (.t 35), none⟩] none)))
def b50_6 : IC := .seq (.region [⟨(some 58), .bin .lss (.t 57) (.t 56), none⟩] none)
 (.seq (.cond (.t 58) (.skip)
 (.exit 6))
 (.seq (.block 7 (.seq (.region [⟨(some 59), .idxs 1 (.t 55) (.t 57), none⟩,
  ⟨(some 60), .load none (.t 59), none⟩,
  ⟨(some 12), .mov (.t 60), none⟩] none)
 (.region [⟨(some 61), .mov (.t 4), none⟩,
  ⟨(some 62), .mov (.t 12), none⟩,
  ⟨(some 63), .idxs 1 (.t 61) (.t 62), none⟩,
  ⟨(some 64), .load none (.t 63), none⟩,
  ⟨(some 65), .bin .sub (.t 64) (.c (.int .i64 1)), none⟩,
  ⟨(some 66), .idxs 1 (.t 61) (.t 62), none⟩,
  ⟨none, .store 1 (.t 66) (.t 65), none⟩] none)))
 (.region [⟨(some 67), .bin .add (.t 57) (.c (.int .i64 1)), none⟩,
  ⟨(some 57), .mov (.t 67), none⟩] none)))
def b50_4 : IC := .seq (.seq (.region [⟨(some 36), .mov (.t 9), none⟩,
  ⟨(some 37), .len false (.t 36), none⟩,
  ⟨(some 38), .mov (.t 0), none⟩,
  ⟨(some 39), .len false (.t 38), none⟩,
  ⟨(some 40), .bin .lss (.t 37) (.t 39), none⟩] none)
 (.cond (.t 40) (.skip)
 (.exit 4)))
 (.block 5 (.seq (.region [⟨(some 41), .mov (.t 4), none⟩,
  ⟨(some 42), .call (.c (.fn 26 [] [])) [(.t 41), (.c (.int .i64 0))], none⟩,
  ⟨(some 10), .mov (.t 42), none⟩] none)
 (.seq (.seq (.region [⟨(some 43), .mov (.t 10), none⟩,
  ⟨(some 44), .bin .lss (.t 43) (.c (.int .i64 0)), none⟩] none)
 (.cond (.t 44) (.seq (.region [⟨(some 2), .mov (.c (.nils)), none⟩,
  ⟨(some 3), .mov (.c (.bool false)), none⟩] none)
 (.ret))
 (.skip)))
 (.seq (.region [⟨(some 45), .mov (.t 4), none⟩,
  ⟨(some 46), .mov (.t 10), none⟩,
  ⟨(some 47), .idxs 1 (.t 45) (.t 46), none⟩,
  ⟨none, .store 1 (.t 47) (.c (.int .i64 (-1))), none⟩] none)
 (.seq (.region [⟨(some 48), .mov (.t 9), none⟩,
  ⟨(some 49), .mov (.t 10), none⟩,
  ⟨(some 50), .bslice 1 1 [.int .i64 0] [(0, 1, (.t 49))], none⟩,
  ⟨(some 51), .append 1 8 [.int .i64 0] (.t 48) (.t 50), none⟩,
  ⟨(some 9), .mov (.t 51), none⟩] none)
 (.seq (.region [⟨(some 52), .mov (.t 0), none⟩,
  ⟨(some 53), .mov (.t 10), none⟩,
  ⟨(some 54), .idxs 1 (.t 52) (.t 53), none⟩,
  ⟨(some 55), .load none (.t 54), none⟩,
  ⟨(some 56), .len false (.t 55), none⟩,
  ⟨(some 57), .mov (.c (.int .i64 0)), none⟩] none)
 (.block 6 (.loop b50_6))))))))
-- (pneumatic/digraph.net).sorted
def ic50 : IC := .seq (.region [⟨(some 2), .mov (.c (.nils)), none⟩,
  ⟨(some 3), .mov (.c (.bool false)), none⟩] none)
 (.seq (.region [⟨(some 13), .mov (.t 0), none⟩,
  ⟨(some 14), .len false (.t 13), none⟩,
  ⟨(some 15), .mkslice 1 8 [.int .i64 0] (.t 14) (.t 14), none⟩,
  ⟨(some 4), .mov (.t 15), none⟩] none)
 (.seq (.seq (.region [⟨(some 16), .mov (.t 0), none⟩,
  ⟨(some 17), .len false (.t 16), none⟩,
  ⟨(some 18), .mov (.c (.int .i64 0)), none⟩] none)
 (.block 0 (.loop b50_0)))
 (.seq (.region [⟨(some 9), .mov (.c (.nils)), none⟩] none)
 (.seq (.block 4 (.loop b50_4))
 (.seq (.region [⟨(some 68), .mov (.t 9), none⟩,
  ⟨(some 2), .mov (.t 68), none⟩,
  ⟨(some 3), .mov (.c (.bool true)), none⟩] none)
 (.ret))))))
theorem fn50 : env0.fn 50 = some ⟨69, ic50, [.t 2, .t 3]⟩ := by kernel_rfl
def srtV (E : List (Nat × Nat)) (m : Nat) : AV := match zvk E m m [] with
 | some l => .tup [vsI (iL l), .bool true]
 | none => .tup [.vs [], .bool false]
def nxV : Option Nat → Int
 | some u => (u : Nat)
 | none => -1
theorem zg9 {α β : Type} (f : β → α → β) (o : β) {l : List α} {i : Nat} (h : i < l.length) : (l.take (i + 1)).foldl f o = f ((l.take i).foldl f o) l[i] := by
 rw [List.take_add_one, List.getElem?_eq_getElem h, List.foldl_append]
 rfl
theorem zeo (E : List (Nat × Nat)) (m v : Nat) : (nbr E m v).length ≤ m := by
 unfold nbr
 exact Nat.le_trans (List.length_filter_le ..) (by rw [List.length_range]; exact Nat.le_refl _)
theorem zjb {E : List (Nat × Nat)} {m v : Nat} (hv : v < m) : ((List.range m).map fun v => ([vN (nbr E m v)] : List AV))[((v : Nat) : Int).toNat]? = some [vN (nbr E m v)] := by
 rw [Int.toNat_natCast, List.getElem?_map, List.getElem?_range hv]
 rfl
theorem zvr {l : List Nat} (h : l.Nodup) (i : Nat) : (l.take i).Nodup := (List.take_sublist i l).nodup h
theorem zd9 (l : List Nat) : (iL l).length = l.length := List.length_map ..
theorem zkn (l : List Nat) (v : Nat) : iL (l ++ [v]) = iL l ++ [((v : Nat) : Int)] := by
 unfold iL
 rw [List.map_append]
 rfl
theorem ziw (m : Nat) : AObj.cells (zei m [AV.int .i64 0]) = .cells ((List.replicate m (0 : Int)).map (AV.int .i64)) := by
 rw [zf1]
 congr 1
 refine List.ext_getElem (by simp) fun i h1 h2 => ?_
 simp
set_option maxHeartbeats 8000000 in
theorem sorted50 (m : Nat) (hm : m ≤ 256) (E : List (Nat × Nat)) (hb : ∀ u v, (u, v) ∈ E → u < m ∧ v < m) : PF Try.prog 50 [cN E m] (srtV E m) := by
 have ez : ∀ o : Nat, 0 + ((o : Nat) : Int).toNat * 1 = o := fun o => by simp
 have hb2 := fun u v h => (hb u v h).2
 have hlen : ((List.range m).map fun v => ([vN (nbr E m v)] : List AV)).length = m := by rw [List.length_map, List.length_range]
 refine zb7 env0_ok fn50 [(0, cN E m)] (by show 1 ≤ 69; decide) rfl fun w0 N0 => ?_
 unfold ic50
 refine zba [] [] [(0, cN E m)] rfl .nil .nil (.cons rfl (.same rfl) .nil) ?_
 repeat (first | refine za6 ?_ | refine za0 rfl ?_ | refine za3 ?_ | refine za1 ?_ | refine za2 rfl ?_ | refine zbh rfl rfl ?_)
 rw [hlen]
 refine zo4 rfl rfl ⟨Int.natCast_nonneg m, Int.le_refl _, by omega, by decide⟩ ?_
 repeat (first | refine za6 ?_ | refine za0 rfl ?_ | refine za3 ?_ | refine za1 ?_ | refine zab ?_ | refine za2 rfl ?_ | refine zbh rfl rfl ?_)
 refine zb6 (fun mm S => ∃ i op hp nx ck, mm = m - i ∧ i ≤ m ∧ op.length = m ∧ (∀ v, v < m → gZ op v = (cntI E i v : Nat)) ∧ 0 < nx ∧ Am.look 0 hp = some (1, .cells (op.map (AV.int .i64))) ∧ S = st 69 [(0, cN E m), (4, .ms 0 1 1 0 m (some m)), (16, cN E m), (17, .int .i64 (m : Nat)), (18, .int .i64 (i : Nat))] hp nx ck) m
  (za7 (.cons rfl (.cons rfl (.cons rfl (.cons (by exact congrArg (fun z : Nat => some (AV.int .i64 (z : Nat))) hlen) (.cons rfl .nil)))))) ⟨0, List.replicate m 0, _, _, _, rfl, Nat.zero_le _, List.length_replicate .., fun v _ => gZ_rep m v, Nat.zero_lt_one, by rw [← ziw]; rfl, rfl⟩ ?_
 ·rintro mm S ⟨i, op, hp, nx, ck, rfl, hi, hol, hcnt, hnx, hk, rfl⟩
  unfold b50_0
  repeat (first | refine za6 ?_ | refine za0 rfl ?_)
  refine zao rfl rfl rfl (fun h3 => ?_) fun h3 => ?_
  ·have hlt : i < m := Int.ofNat_lt.1 (of_decide_eq_true h3)
   have w1 : IntKind.wrap .i64 (((i : Nat) : Int) + 1) = ((i + 1 : Nat) : Int) := zag i (by omega)
   have hgN := zjb (E := E) hlt
   have hnl := zeo E m i
   have hin : ∀ w ∈ nbr E m i, w < m := fun w hw => hb2 _ _ ((zcr hb2).1 hw)
   have hst := fun j => addF 1 op ((nbr E m i).take j) (zvr (zin E m i) j) fun w hw => by rw [hol]; exact hin w (List.mem_of_mem_take hw)
   have hfin : ∀ op', AddF 1 (nbr E m i) op op' → op'.length = m ∧ ∀ v, v < m → gZ op' v = (cntI E (i + 1) v : Nat) := fun op' h => ⟨h.len.trans hol, fun v hv => by
    rw [h.at_, hcnt v hv, zso]
    by_cases c : (i, v) ∈ E
    ·rw [if_pos ((zcr hb2).2 c), if_pos c]; omega
    ·rw [if_neg fun c2 => c ((zcr hb2).1 c2), if_neg c]; omega⟩
   have hcl : ∀ v, v < m → 0 ≤ gZ op v ∧ gZ op v ≤ m := fun v hv => by rw [hcnt v hv]; have := cntI_le E i v; omega
   generalize nbr E m i = l at *
   repeat (first | refine za6 ?_ | refine za0 rfl ?_ | refine za3 ?_ | refine za1 ?_ | refine zab ?_ | refine zad ?_ | refine zc5 rfl ?_ | refine za2 rfl ?_ | refine zaf rfl rfl ?_ | refine zbh rfl rfl ?_ | refine zb0 rfl rfl (by omega) (by assumption) rfl ?_)
   refine zb6 (fun mm S => ∃ j hp, mm = l.length - j ∧ j ≤ l.length ∧ Am.look 0 hp = some (1, .cells (((l.take j).foldl (zlr 1) op).map (AV.int .i64))) ∧ S = st 69 [(0, cN E m), (4, .ms 0 1 1 0 m (some m)), (16, cN E m), (17, .int .i64 (m : Nat)), (18, .int .i64 (i : Nat)), (22, vN l), (23, .int .i64 ((l.map fun w => ([.int .i64 (w : Nat)] : List AV)).length : Nat)), (24, .int .i64 (j : Nat))] hp nx ck) l.length
    (za7 (.cons rfl (.cons rfl (.cons rfl (.cons rfl (.cons rfl (.cons rfl (.cons rfl (.cons rfl .nil))))))))) ⟨0, _, rfl, Nat.zero_le _, hk, rfl⟩ ?_
   rintro mm S ⟨j, hp, rfl, hj, hk, rfl⟩
   have hs := hst j
   have hol2 : ((l.take j).foldl (zlr 1) op).length = m := hs.len.trans hol
   unfold b50_2
   repeat (first | refine za6 ?_ | refine za0 rfl ?_)
   refine zao rfl rfl rfl (fun h4 => ?_) fun h4 => ?_
   ·have hlt2 : j < l.length := by
     have h5 : ((j : Nat) : Int) < (((l.map fun w => ([.int .i64 (w : Nat)] : List AV)).length : Nat) : Int) := of_decide_eq_true h4
     rw [List.length_map] at h5
     exact Int.ofNat_lt.1 h5
    have w2 : IntKind.wrap .i64 (((j : Nat) : Int) + 1) = ((j + 1 : Nat) : Int) := zag j (by omega)
    have hgv := zk1 hlt2
    have hxm := hin l[j] (List.getElem_mem hlt2)
    have hx : gZ ((l.take j).foldl (zlr 1) op) l[j] ≤ m + 1 ∧ 0 ≤ gZ ((l.take j).foldl (zlr 1) op) l[j] := by
     rw [hs.at_]
     have := hcl _ hxm
     split <;> omega
    have hts := zg9 (zlr 1) op hlt2
    generalize (l.take j).foldl (zlr 1) op = o at *
    generalize l[j] = x at *
    have w3 : IntKind.wrap .i64 (gZ o x + 1) = gZ o x + 1 := zgq _ (by omega) (by omega)
    repeat (first | refine za6 ?_ | refine za0 rfl ?_ | refine za3 ?_ | refine za1 ?_ | refine zab ?_ | refine zad ?_ | refine zc5 rfl ?_ | refine za2 rfl ?_ | refine zaf rfl rfl ?_ | refine zb0 rfl rfl (by omega) (by assumption) rfl ?_ | refine zaz rfl rfl (by omega) (by omega) ?_)
    rw [ez]
    refine zak (id := 0) (sp := 1) (off := x) rfl hk hnx (zpd (by omega)) ?_
    repeat (first | refine zay (op := .add) rfl rfl rfl ?_ | refine zaz rfl rfl (by omega) (by omega) ?_)
    rw [ez, w3]
    refine zbd (id := 0) (sp := 1) (off := x) rfl rfl rfl hk (by simp; omega) rfl ?_
    repeat (first | refine za0 rfl ?_ | refine za3 ?_ | refine za1 ?_ | refine zb2 ?_ | refine za2 rfl ?_ | refine zay (op := .add) rfl rfl rfl ?_)
    rw [w2]
    exact zah (show l.length - (j + 1) < l.length - j by omega) (za7 (.cons rfl (.cons rfl (.cons rfl (.cons rfl (.cons rfl (.cons rfl (.cons rfl (.cons rfl .nil))))))))) ⟨j + 1, _, rfl, hlt2, by rw [za4, if_pos rfl, ← List.map_set, hts]; rfl, rfl⟩
   ·have hje : j = l.length := by
     have h5 : ¬ ((j : Nat) : Int) < (((l.map fun w => ([.int .i64 (w : Nat)] : List AV)).length : Nat) : Int) := of_decide_eq_false h4
     rw [List.length_map] at h5
     omega
    subst hje
    rw [List.take_length] at hs hk
    obtain ⟨a1, a2⟩ := hfin _ hs
    repeat (first | refine za6 ?_ | refine za3 ?_ | refine za1 ?_ | refine zbp rfl ?_ | refine zb4 ?_ | refine zac ?_)
    refine zbx ?_
    repeat (first | refine za0 rfl ?_ | refine za3 ?_ | refine za1 ?_ | refine zb2 ?_ | refine zb3 ?_ | refine za2 rfl ?_ | refine zay (op := .add) rfl rfl rfl ?_)
    rw [w1]
    exact zah (show m - (i + 1) < m - i by omega) (za7 (.cons rfl (.cons rfl (.cons rfl (.cons rfl (.cons rfl .nil)))))) ⟨i + 1, _, _, _, _, rfl, hlt, a1, a2, hnx, hk, rfl⟩
  ·have hie : i = m := by
    have h4 : ¬ ((i : Nat) : Int) < ((m : Nat) : Int) := of_decide_eq_false h3
    omega
   subst hie
   repeat (first | refine za6 ?_ | refine za3 ?_ | refine za1 ?_ | refine zbp rfl ?_ | refine zb4 ?_ | refine zac ?_)
   refine zbx ?_
   repeat (first | refine za6 ?_ | refine za0 rfl ?_ | refine za3 ?_ | refine za1 ?_ | refine zab ?_ | refine zb3 ?_ | refine za2 rfl ?_)
   refine zb6 (fun mm S => ∃ out op w hp nx ck, mm = i - out.length ∧ out.length ≤ i ∧ Top E i out ∧ zvk E i (i - out.length) out = zvk E i i [] ∧ Opn E i out op ∧ 0 < nx ∧ Am.look 0 hp = some (1, .cells (op.map (AV.int .i64))) ∧ Gv 0 (iL out) w hp nx ∧ S = st 69 [(0, cN E i), (4, .ms 0 1 1 0 i (some i)), (9, w)] hp nx ck) i
    (za7 (.cons rfl (.cons rfl (.cons rfl .nil)))) ⟨[], op, .nils, _, _, _, rfl, Nat.zero_le _, Top.nil E i, rfl, Opn.start hol hcnt, hnx, hk, .inl ⟨rfl, rfl⟩, rfl⟩ ?_
   rintro mm S ⟨out, op, w, hp, nx, ck, rfl, hol, hT, hS, hO, hnx, hk, hG, rfl⟩
   unfold b50_4
   repeat (first | refine za6 ?_ | refine za0 rfl ?_ | refine za2 rfl ?_)
   refine o_glen hG rfl ?_
   repeat (first | refine za2 rfl ?_ | refine zbh rfl rfl ?_)
   rw [zd9, hlen]
   refine zao rfl rfl rfl (fun h3 => ?_) fun h3 => ?_
   ·have hlt : out.length < i := Int.ofNat_lt.1 (of_decide_eq_true h3)
    have p26 := index26 op 0 (by have := hO.len; omega)
    rw [show dnx (fun i => gZ op i == 0) op.length 0 = nxV (nxS E i out) from by
     unfold dnx
     rw [List.drop_zero, hO.find hb]
     unfold nxV
     rfl] at p26
    rw [show i - out.length = (i - out.length - 1) + 1 by omega, zvk] at hS
    repeat (first | refine za6 ?_ | refine za0 rfl ?_ | refine za3 ?_ | refine za1 ?_ | refine zab ?_ | refine zad ?_ | refine zc5 rfl ?_ | refine za2 rfl ?_)
    refine zau rfl (zfi (zct (d := 3) op hO.len hk) rfl) p26 (fun _ => rfl) ?_
    repeat (first | refine za6 ?_ | refine za0 rfl ?_ | refine za3 ?_ | refine za1 ?_ | refine za2 rfl ?_)
    cases hx : nxS E i out with
    | none =>
     rw [hx] at hS
     have hV : srtV E i = .tup [.vs [], .bool false] := by unfold srtV; rw [← hS]
     rw [hV]
     refine ziq rfl rfl rfl ?_
     repeat (first | refine za6 ?_ | refine za0 rfl ?_ | refine za3 ?_ | refine za1 ?_ | refine zc5 rfl ?_ | refine zax ?_ | refine zam ?_ | refine zcg ?_ | refine za2 rfl ?_)
     exact zav ⟨.inr rfl, _, rfl, rfl⟩
    | some x =>
    rw [hx] at hS
    obtain ⟨hxm, _, _⟩ := zug hx
    have hT2 := hT.snoc hx
    have hO2 := hO.step hb hT hx
    have hgN := zjb (E := E) hxm
    have hnl := zeo E i x
    have hin : ∀ w ∈ nbr E i x, w < i := fun w hw => hb2 _ _ ((zcr hb2).1 hw)
    have hst := fun j => addF (-1) (op.set x (-1)) ((nbr E i x).take j) (zvr (zin E i x) j) fun w hw => by rw [List.length_set, hO.len]; exact hin w (List.mem_of_mem_take hw)
    have hcl : ∀ v, v < i → -1 ≤ gZ (op.set x (-1)) v ∧ gZ (op.set x (-1)) v ≤ i := fun v hv => by
     rw [zm9 (by rw [hO.len]; exact hxm)]
     split
     ·omega
     ·by_cases c : v ∈ out
      ·rw [hO.gone v c]; omega
      ·rw [hO.cnt v hv c]; have := cntO_le E i out v; omega
    generalize nbr E i x = l at *
    rw [show nxV (some x) = ((x : Nat) : Int) from rfl]
    refine zcv rfl rfl (by show some (AV.bool (decide (((x : Nat) : Int) < 0))) = _; rw [decide_eq_false (by omega)]) ?_
    repeat (first | refine za6 ?_ | refine za0 rfl ?_ | refine za3 ?_ | refine za1 ?_ | refine zad ?_ | refine zbp rfl ?_ | refine za2 rfl ?_ | refine zaz rfl rfl (by omega) (by omega) ?_)
    rw [ez]
    refine zbd (id := 0) (sp := 1) (off := x) rfl rfl rfl hk (by simp; have := hO.len; omega) rfl ?_
    rw [← List.map_set]
    have hG2 := (hG.put (Nat.le_refl 0) (1, .cells ((op.set x (-1)).map (AV.int .i64)))).fresh ck (.cells [.int .i64 (x : Nat)])
    repeat (first | refine za6 ?_ | refine za0 rfl ?_ | refine za3 ?_ | refine za1 ?_ | refine za2 rfl ?_ | refine zch rfl rfl ?_)
    refine o_gapp hG2 (Nat.succ_pos _) (by rw [zd9]; omega) rfl rfl zbe (by decide) fun w2 hp2 nx2 ck2 hG3 hnx2 hkp => ?_
    rw [← zkn] at hG3
    have hk2 := hkp 0 (Nat.le_refl 0)
    rw [za9, if_neg (by omega), za4, if_pos rfl] at hk2
    repeat (first | refine za6 ?_ | refine za0 rfl ?_ | refine za3 ?_ | refine za1 ?_ | refine zab ?_ | refine za2 rfl ?_ | refine zaf rfl rfl ?_ | refine zbh rfl rfl ?_ | refine zb0 rfl rfl (by omega) (by assumption) rfl ?_)
    refine zb6 (fun mm S => ∃ j hp, mm = l.length - j ∧ j ≤ l.length ∧ Am.look 0 hp = some (1, .cells (((l.take j).foldl (zlr (-1)) (op.set x (-1))).map (AV.int .i64))) ∧ Gv 0 (iL (out ++ [x])) w2 hp nx2 ∧ S = st 69 [(0, cN E i), (4, .ms 0 1 1 0 i (some i)), (9, w2), (55, vN l), (56, .int .i64 ((l.map fun w => ([.int .i64 (w : Nat)] : List AV)).length : Nat)), (57, .int .i64 (j : Nat))] hp nx2 ck2) l.length
     (za7 (.cons rfl (.cons rfl (.cons rfl (.cons rfl (.cons rfl (.cons rfl .nil))))))) ⟨0, _, rfl, Nat.zero_le _, hk2, hG3, rfl⟩ ?_
    rintro mm S ⟨j, hp, rfl, hj, hk, hG, rfl⟩
    have hs := hst j
    have hol2 : ((l.take j).foldl (zlr (-1)) (op.set x (-1))).length = i := by rw [hs.len, List.length_set]; exact hO.len
    unfold b50_6
    repeat (first | refine za6 ?_ | refine za0 rfl ?_)
    refine zao rfl rfl rfl (fun h4 => ?_) fun h4 => ?_
    ·have hlt2 : j < l.length := by
      have h5 : ((j : Nat) : Int) < (((l.map fun w => ([.int .i64 (w : Nat)] : List AV)).length : Nat) : Int) := of_decide_eq_true h4
      rw [List.length_map] at h5
      exact Int.ofNat_lt.1 h5
     have w2 : IntKind.wrap .i64 (((j : Nat) : Int) + 1) = ((j + 1 : Nat) : Int) := zag j (by omega)
     have hgv := zk1 hlt2
     have hym := hin l[j] (List.getElem_mem hlt2)
     have hy : -2 ≤ gZ ((l.take j).foldl (zlr (-1)) (op.set x (-1))) l[j] ∧ gZ ((l.take j).foldl (zlr (-1)) (op.set x (-1))) l[j] ≤ i := by
      rw [hs.at_]
      have := hcl _ hym
      split <;> omega
     have hts := zg9 (zlr (-1)) (op.set x (-1)) hlt2
     generalize (l.take j).foldl (zlr (-1)) (op.set x (-1)) = o at *
     generalize l[j] = y at *
     have w3 : IntKind.wrap .i64 (gZ o y - 1) = gZ o y + -1 := zgq _ (by omega) (by omega)
     repeat (first | refine za6 ?_ | refine za0 rfl ?_ | refine za3 ?_ | refine za1 ?_ | refine zab ?_ | refine zad ?_ | refine zc5 rfl ?_ | refine za2 rfl ?_ | refine zaf rfl rfl ?_ | refine zb0 rfl rfl (by omega) (by assumption) rfl ?_ | refine zaz rfl rfl (by omega) (by omega) ?_)
     rw [ez]
     refine zak (id := 0) (sp := 1) (off := y) rfl hk hnx2 (zpd (by omega)) ?_
     repeat (first | refine zay (op := .sub) rfl rfl rfl ?_ | refine zaz rfl rfl (by omega) (by omega) ?_)
     rw [ez, w3]
     refine zbd (id := 0) (sp := 1) (off := y) rfl rfl rfl hk (by simp; omega) rfl ?_
     repeat (first | refine za0 rfl ?_ | refine za3 ?_ | refine za1 ?_ | refine zb2 ?_ | refine za2 rfl ?_ | refine zay (op := .add) rfl rfl rfl ?_)
     rw [w2]
     exact zah (show l.length - (j + 1) < l.length - j by omega) (za7 (.cons rfl (.cons rfl (.cons rfl (.cons rfl (.cons rfl (.cons rfl .nil))))))) ⟨j + 1, _, rfl, hlt2, by rw [za4, if_pos rfl, ← List.map_set, hts]; rfl, hG.put (Nat.le_refl 0) _, rfl⟩
    ·have hje : j = l.length := by
      have h5 : ¬ ((j : Nat) : Int) < (((l.map fun w => ([.int .i64 (w : Nat)] : List AV)).length : Nat) : Int) := of_decide_eq_false h4
      rw [List.length_map] at h5
      omega
     subst hje
     rw [List.take_length] at hk
     repeat (first | refine za6 ?_ | refine za3 ?_ | refine za1 ?_ | refine zbp rfl ?_ | refine zb4 ?_ | refine zac ?_)
     refine zbx ?_
     repeat (first | refine zb2 ?_ | refine zb3 ?_)
     exact zah (show i - (out ++ [x]).length < i - out.length by rw [List.length_append, List.length_singleton]; omega) (za7 (.cons rfl (.cons rfl (.cons rfl .nil)))) ⟨_, _, _, _, _, _, rfl, by rw [List.length_append, List.length_singleton]; omega, hT2, by rw [List.length_append, List.length_singleton, ← hS, Nat.sub_sub], hO2, hnx2, hk, hG, rfl⟩
   ·have hie : out.length = i := by
     have h4 : ¬ ((out.length : Nat) : Int) < ((i : Nat) : Int) := of_decide_eq_false h3
     omega
    rw [hie, Nat.sub_self] at hS
    have hV : srtV E i = .tup [vsI (iL out), .bool true] := by unfold srtV; rw [← hS]; rfl
    rw [hV]
    repeat (first | refine za3 ?_ | refine za1 ?_ | refine zbp rfl ?_ | refine zb4 ?_ | refine zac ?_)
    refine zbx ?_
    repeat (first | refine za6 ?_ | refine za0 rfl ?_ | refine za3 ?_ | refine za1 ?_ | refine zax ?_ | refine zb3 ?_ | refine za2 rfl ?_)
    refine zav ⟨.inr rfl, _, rfl, ?_⟩
    exact congrArg AV.tup (zfi hG.view rfl)
end Go.Proofs.Ytoagikifehmlpaa
namespace Go.Proofs.Ytoagikifehmlpaa
open Go Go.Am
def unF (s : List Bool) : Nat := (s.filter fun b => !b).length
theorem zli : ∀ {s : List Bool} {v : Nat}, v < s.length → gB s v = false → unF (s.set v true) + 1 = unF s
 | [], _, h, _ => absurd h (Nat.not_lt_zero _)
 | x :: s, 0, _, h => by
  have hx : x = false := h
  subst hx
  rfl
 | x :: s, v + 1, hv, h => by
  have ih := zli (s := s) (v := v) (by simpa using hv) h
  unfold unF at ih ⊢
  rw [List.set_cons_succ, List.filter_cons, List.filter_cons]
  cases x with
  | true => exact ih
  | false =>
   rw [if_pos (show (!false) = true from rfl), if_pos (show (!false) = true from rfl), List.length_cons, List.length_cons]
   omega
theorem zvt : ∀ (D : List Nat) (s : List Bool), D.Nodup → (∀ d ∈ D, d < s.length ∧ gB s d = false) → unF (mrk s D) + D.length = unF s
 | [], _, _, _ => rfl
 | d :: D, s, hn, h => by
  obtain ⟨h1, h2⟩ := List.nodup_cons.1 hn
  obtain ⟨a, b⟩ := h d (List.mem_cons_self ..)
  have ih := zvt D (s.set d true) h2 fun x hx => by
   obtain ⟨c, e⟩ := h x (List.mem_cons_of_mem _ hx)
   refine ⟨by rw [List.length_set]; exact c, ?_⟩
   rw [ztc a, e, Bool.false_or]
   exact beq_eq_false_iff_ne.2 fun e => h1 (e ▸ hx)
  have := zli a b
  show unF (mrk (s.set d true) D) + (D.length + 1) = _
  omega
theorem zw1 {E : List (Nat × Nat)} {m : Nat} (hb : ∀ u v, (u, v) ∈ E → u < m ∧ v < m) {s : List Bool} {l D : List Nat} (h : Vis E m s l D) (hs : s.length = m) (hl : ∀ y ∈ l, y < m) : unF (mrk s D) + D.length = unF s := by
 have P := zw0 hb h hs hl
 exact zvt D s P.nd fun d hd => ⟨by rw [hs]; exact P.lt d hd, P.new d hd⟩
theorem gB_get {s : List Bool} {v : Nat} (h : v < s.length) : (s.map AV.bool)[v]? = some (.bool (gB s v)) := by
 unfold gB
 rw [List.getElem?_map, List.getD_eq_getElem?_getD, List.getElem?_eq_getElem h]
 rfl
theorem zud (v : Nat) : ∀ (D : List Nat) (s : List Bool), mrk (s.set v true) D = (mrk s D).set v true
 | [], _ => rfl
 | d :: D, s => by
  show mrk ((s.set v true).set d true) D = (mrk (s.set d true) D).set v true
  rw [← zud v D]
  congr 1
  by_cases e : v = d
  ·rw [e]
  ·exact List.set_comm _ _ e
theorem mrk_snoc (s : List Bool) (D : List Nat) (v : Nat) : mrk s (D ++ [v]) = mrk (s.set v true) D := by
 rw [zo3, zud]
 rfl
theorem zvz {E : List (Nat × Nat)} {m : Nat} {s : List Bool} {l D : List Nat} (h : Vis E m s l D) : l = [] → D = [] := by
 cases h with
 | nil => exact fun _ => rfl
 | skip => exact fun e => by simp at e
 | go => exact fun e => by simp at e
theorem zqb {l : List Nat} {x y : Nat} (e : l ++ [x] = [y]) : l = [] ∧ x = y := by
 cases l with
 | nil => injection e with e; exact ⟨rfl, e⟩
 | cons a l =>
  injection e with _ e
  simp at e
theorem vis_one {E : List (Nat × Nat)} {m : Nat} {s : List Bool} {l D : List Nat} {y : Nat} (h : Vis E m s l D) : l = [y] → (D = [] ∧ gB s y = true) ∨ ∃ D', D = D' ++ [y] ∧ gB s y = false ∧ Vis E m (s.set y true) (nbr E m y) D' := by
 cases h with
 | nil => exact fun e => by cases e
 | skip h hx =>
  intro e
  obtain ⟨e1, e2⟩ := zqb e
  obtain rfl := zvz h e1
  subst e2
  exact .inl ⟨rfl, hx⟩
 | go h hx h' =>
  intro e
  obtain ⟨e1, e2⟩ := zqb e
  obtain rfl := zvz h e1
  subst e2
  exact .inr ⟨_, rfl, hx, h'⟩
theorem Vis.snoc {E : List (Nat × Nat)} {m : Nat} {s : List Bool} {l D D2 : List Nat} {y : Nat} (h : Vis E m s l D) (h2 : Vis E m (mrk s D) [y] D2) : Vis E m s (l ++ [y]) (D ++ D2) := by
 rcases vis_one h2 rfl with ⟨rfl, hg⟩ | ⟨D', rfl, hg, h3⟩
 ·rw [List.append_nil]
  exact .skip h hg
 ·exact .go h hg h3
theorem iL_app (a b : List Nat) : iL (a ++ b) = iL a ++ iL b := List.map_append ..
structure VM (E : List (Nat × Nat)) (m sa ss sw sc : Nat) (sn : List Bool) (q : List Int) (hp : List (Nat × Nat × AObj)) (nx : Nat) : Prop where
 ha : Am.look 0 hp = some (sa, .cells [.ms 1 ss 1 0 m (some m)])
 hs : Am.look 1 hp = some (ss, .cells (sn.map AV.bool))
 hw : Am.look 2 hp = some (sw, .cells [.fn 60 [] [.mptr 0 sa 0, .vptr [cN E m], .mptr 2 sw 0, .mptr 3 sc 0]])
 hc : ∃ qv, Am.look 3 hp = some (sc, .cells [qv]) ∧ Gv 3 q qv hp nx
 nx : 3 < nx
theorem VM.set {E : List (Nat × Nat)} {m sa ss sw sc nx : Nat} {sn : List Bool} {q : List Int} {hp : List (Nat × Nat × AObj)} (h : VM E m sa ss sw sc sn q hp nx) (v : Nat) : VM E m sa ss sw sc (sn.set v true) q (zbo 1 (ss, .cells ((sn.map AV.bool).set v (.bool true))) hp) nx := by
 obtain ⟨qv, hc, hG⟩ := h.hc
 exact ⟨by rw [za4, if_neg (by decide)]; exact h.ha, by rw [za4, if_pos rfl, ← List.map_set], by rw [za4, if_neg (by decide)]; exact h.hw, ⟨qv, by rw [za4, if_neg (by decide)]; exact hc, hG.put (by decide) _⟩, h.nx⟩
theorem Gv.cell {b nx : Nat} {q : List Int} {w : AV} {hp : List (Nat × Nat × AObj)} (h : Gv b q w hp nx) : w.isCell = true ∧ w.cells? = some [w] := by
 rcases h with ⟨rfl, rfl⟩ | ⟨id, sp, rfl, _, _, _⟩
 ·exact ⟨rfl, rfl⟩
 ·exact ⟨rfl, rfl⟩
def b60_0 : IC := .seq (.region [⟨(some 21), .bin .lss (.t 20) (.t 19), none⟩] none)
 (.seq (.cond (.t 21) (.skip)
 (.exit 0))
 (.seq (.block 1 (.seq (.region [⟨(some 22), .idxs 1 (.t 18) (.t 20), none⟩,
  ⟨(some 23), .load none (.t 22), none⟩,
  ⟨(some 7), .mov (.t 23), none⟩] none)
 (.region [⟨(some 24), .load none (.t 3), none⟩,
  ⟨(some 25), .mov (.t 7), none⟩,
  ⟨(some 26), .call (.t 24) [(.t 25)], none⟩] none)))
 (.region [⟨(some 27), .bin .add (.t 20) (.c (.int .i64 1)), none⟩,
  ⟨(some 20), .mov (.t 27), none⟩] none)))
-- pneumatic/digraph.components$1
def ic60 : IC := .seq (.seq (.region [⟨(some 8), .load none (.t 1), none⟩,
  ⟨(some 9), .mov (.t 0), none⟩,
  ⟨(some 10), .idxs 1 (.t 8) (.t 9), none⟩,
  ⟨(some 11), .load none (.t 10), none⟩] none)
 (.cond (.t 11) (.ret)
 (.skip)))
 (.seq (.region [⟨(some 12), .load none (.t 1), none⟩,
  ⟨(some 13), .mov (.t 0), none⟩,
  ⟨(some 14), .idxs 1 (.t 12) (.t 13), none⟩,
  ⟨none, .store 1 (.t 14) (.c (.bool true)), none⟩] none)
 (.seq (.seq (.region [⟨(some 15), .load none (.t 2), none⟩,
  ⟨(some 16), .mov (.t 0), none⟩,
  ⟨(some 17), .idxs 1 (.t 15) (.t 16), none⟩,
  ⟨(some 18), .load none (.t 17), none⟩,
  ⟨(some 19), .len false (.t 18), none⟩,
  ⟨(some 20), .mov (.c (.int .i64 0)), none⟩] none)
 (.block 0 (.loop b60_0)))
 (.region [⟨(some 28), .load none (.t 4), none⟩,
  ⟨(some 29), .mov (.t 0), none⟩,
  ⟨(some 30), .bslice 1 1 [.int .i64 0] [(0, 1, (.t 29))], none⟩,
  ⟨(some 31), .append 1 8 [.int .i64 0] (.t 28) (.t 30), none⟩,
  ⟨none, .store 1 (.t 4) (.t 31), none⟩] none)))
theorem fn60 : env0.fn 60 = some ⟨32, ic60, []⟩ := by kernel_rfl
set_option maxHeartbeats 4000000 in
theorem visit60 (m : Nat) (hm : m ≤ 256) (E : List (Nat × Nat)) (hb : ∀ u v, (u, v) ∈ E → u < m ∧ v < m) (w0 : World) (N0 sa ss sw sc : Nat) : ∀ (k : Nat) (sn : List Bool) (q : List Int) (v : Nat) (H : HS), unF sn < k → sn.length = m → v < m → q.length + unF sn ≤ m → VM E m sa ss sw sc sn q H.heap H.next →
  FT Try.prog w0 N0 60 [.int .i64 (v : Nat), .mptr 0 sa 0, .vptr [cN E m], .mptr 2 sw 0, .mptr 3 sc 0] H fun _ H' => ∃ D, Vis E m sn [v] D ∧ VM E m sa ss sw sc (mrk sn D) (q ++ iL D) H'.heap H'.next := by
 have ez : ∀ o : Nat, 0 + ((o : Nat) : Int).toNat * 1 = o := fun o => by simp
 have hb2 := fun u v h => (hb u v h).2
 intro k
 induction k with
 | zero => exact fun sn q v H h => absurd h (Nat.not_lt_zero _)
 | succ k ih =>
 intro sn q v H hun hsn hv hq hM
 refine zn4 env0_ok fn60 [(0, .int .i64 (v : Nat)), (1, .mptr 0 sa 0), (2, .vptr [cN E m]), (3, .mptr 2 sw 0), (4, .mptr 3 sc 0)] (by show 5 ≤ 32; decide) rfl ?_
 obtain ⟨hp, nx, ck⟩ := H
 have hM : VM E m sa ss sw sc sn q hp nx := hM
 have hnx := hM.nx
 show Zm _ _ _ _ _ (st 32 _ hp nx ck) _ _
 unfold ic60
 repeat (first | refine za6 ?_ | refine za0 rfl ?_)
 refine zak (id := 0) (sp := sa) (off := 0) rfl hM.ha (by omega) rfl ?_
 repeat (first | refine za2 rfl ?_ | refine zaz rfl rfl (by omega) (by omega) ?_)
 rw [ez]
 refine zak (id := 1) (sp := ss) (off := v) rfl hM.hs (by omega) (gB_get (by omega)) ?_
 cases hg : gB sn v with
 | true =>
  repeat (first | refine za3 ?_ | refine za1 ?_ | refine zc5 rfl ?_ | refine zax ?_ | refine zam ?_)
  refine zav ⟨.inr rfl, _, rfl, [], .skip (l := []) (.nil sn) hg, ?_⟩
  rw [show q ++ iL [] = q from List.append_nil q]
  exact hM
 | false =>
  have hun2 := zli (by rw [hsn]; exact hv) hg
  have hM2 := hM.set v
  have hgN := zjb (E := E) hv
  have hin : ∀ w ∈ nbr E m v, w < m := fun w hw => hb2 _ _ ((zcr hb2).1 hw)
  have hnl := zeo E m v
  repeat (first | refine za6 ?_ | refine za0 rfl ?_ | refine za3 ?_ | refine za1 ?_ | refine zad ?_ | refine zbp rfl ?_)
  refine zak (id := 0) (sp := sa) (off := 0) rfl hM.ha (by omega) rfl ?_
  repeat (first | refine za2 rfl ?_ | refine zaz rfl rfl (by omega) (by omega) ?_)
  rw [ez]
  refine zbd (id := 1) (sp := ss) (off := v) rfl rfl rfl hM.hs (by simp; omega) rfl ?_
  repeat (first | refine za6 ?_ | refine za0 rfl ?_ | refine za3 ?_ | refine za1 ?_ | refine zab ?_ | refine za2 rfl ?_ | refine zaf rfl rfl ?_ | refine zbh rfl rfl ?_ | refine zb0 rfl rfl (by omega) (by assumption) rfl ?_)
  have hvis : ∀ D, Vis E m (sn.set v true) (nbr E m v) D → Vis E m sn [v] (D ++ [v]) := fun D h => .go (l := []) (D := []) (.nil sn) hg h
  generalize hl : nbr E m v = l at *
  refine zb6 (fun mm S => ∃ j D hp nx ck, mm = l.length - j ∧ j ≤ l.length ∧ Vis E m (sn.set v true) (l.take j) D ∧ VM E m sa ss sw sc (mrk (sn.set v true) D) (q ++ iL D) hp nx ∧ S = st 32 [(0, .int .i64 (v : Nat)), (3, .mptr 2 sw 0), (4, .mptr 3 sc 0), (18, vN l), (19, .int .i64 ((l.map fun w => ([.int .i64 (w : Nat)] : List AV)).length : Nat)), (20, .int .i64 (j : Nat))] hp nx ck) l.length
   (za7 (.cons rfl (.cons rfl (.cons rfl (.cons rfl (.cons rfl (.cons rfl .nil))))))) ⟨0, [], _, _, _, rfl, Nat.zero_le _, .nil _, by rw [show q ++ iL [] = q from List.append_nil q]; exact hM2, rfl⟩ ?_
  rintro mm S ⟨j, D, hp, nx, ck, rfl, hj, hV, hM, rfl⟩
  have hnx := hM.nx
  have hvu := zw1 hb hV (by rw [List.length_set, hsn]) fun y hy => hin y (List.mem_of_mem_take hy)
  have hml : (mrk (sn.set v true) D).length = m := by rw [zim, List.length_set, hsn]
  have hqd : (q ++ iL D).length = q.length + D.length := by rw [List.length_append, zd9]
  unfold b60_0
  repeat (first | refine za6 ?_ | refine za0 rfl ?_)
  refine zao rfl rfl rfl (fun h4 => ?_) fun h4 => ?_
  ·have hlt2 : j < l.length := by
    have h5 : ((j : Nat) : Int) < (((l.map fun w => ([.int .i64 (w : Nat)] : List AV)).length : Nat) : Int) := of_decide_eq_true h4
    rw [List.length_map] at h5
    exact Int.ofNat_lt.1 h5
   have w2 : IntKind.wrap .i64 (((j : Nat) : Int) + 1) = ((j + 1 : Nat) : Int) := zag j (by omega)
   have hgv := zk1 hlt2
   have hym := hin l[j] (List.getElem_mem hlt2)
   have hts : l.take (j + 1) = l.take j ++ [l[j]] := by rw [List.take_add_one, List.getElem?_eq_getElem hlt2]; rfl
   generalize l[j] = y at *
   have hft := ih (mrk (sn.set v true) D) (q ++ iL D) y ⟨hp, nx, ck⟩ (by omega) hml hym (by omega) hM
   repeat (first | refine za6 ?_ | refine za0 rfl ?_ | refine za3 ?_ | refine za1 ?_ | refine zab ?_ | refine zad ?_ | refine zc5 rfl ?_ | refine za2 rfl ?_ | refine zaf rfl rfl ?_ | refine zb0 rfl rfl (by omega) (by assumption) rfl ?_)
   refine zak (id := 2) (sp := sw) (off := 0) rfl hM.hw (by omega) rfl ?_
   repeat (first | refine za2 rfl ?_)
   refine o_ct _ rfl rfl (zsw hft) (fun v H _ m hm => absurd hm List.not_mem_nil) fun r H' hF => ?_
   obtain ⟨D2, hV2, hM2⟩ := hF
   obtain ⟨hp', nx', ck'⟩ := H'
   show Om _ _ _ _ _ _ (st 32 _ hp' nx' ck') _ _
   have hV3 : Vis E m (sn.set v true) (l.take (j + 1)) (D ++ D2) := by rw [hts]; exact hV.snoc hV2
   repeat (first | refine za0 rfl ?_ | refine za3 ?_ | refine za1 ?_ | refine zb2 ?_ | refine za2 rfl ?_ | refine zay (op := .add) rfl rfl rfl ?_)
   rw [w2]
   refine zah (show l.length - (j + 1) < l.length - j by omega) (za7 (.cons rfl (.cons rfl (.cons rfl (.cons rfl (.cons rfl (.cons rfl .nil))))))) ⟨j + 1, D ++ D2, _, _, _, rfl, hlt2, hV3, ?_, rfl⟩
   rw [zo3, iL_app, ← List.append_assoc]
   exact hM2
  ·have hje : j = l.length := by
    have h5 : ¬ ((j : Nat) : Int) < (((l.map fun w => ([.int .i64 (w : Nat)] : List AV)).length : Nat) : Int) := of_decide_eq_false h4
    rw [List.length_map] at h5
    omega
   subst hje
   rw [List.take_length] at hV
   obtain ⟨qv, hc, hG⟩ := hM.hc
   repeat (first | refine za6 ?_ | refine za3 ?_ | refine za1 ?_ | refine zbp rfl ?_ | refine zb4 ?_ | refine zac ?_)
   refine zbx ?_
   repeat (first | refine za0 rfl ?_ | refine za1 ?_ | refine zb3 ?_)
   refine zak (id := 3) (sp := sc) (off := 0) rfl hc (by omega) rfl ?_
   repeat (first | refine za2 rfl ?_ | refine zch rfl rfl ?_)
   refine o_gapp (hG.fresh ck (.cells [.int .i64 (v : Nat)])) (by omega) (by omega) rfl rfl zbe (by decide) fun w2 hp2 nx2 ck2 hG3 hnx2 hkp => ?_
   have hk : ∀ i, i ≤ 3 → Am.look i hp2 = Am.look i hp := fun i hi => by rw [hkp i hi, za9, if_neg (by omega)]
   refine zbd (id := 3) (sp := sc) (off := 0) rfl rfl hG3.cell.2 ((hk 3 (by omega)).trans hc) (by simp) hG3.cell.1 ?_
   repeat (first | refine za3 ?_)
   refine zav ⟨.inl rfl, _, rfl, D ++ [v], hvis D hV, ?_⟩
   show VM _ _ _ _ _ _ _ _ (zbo 3 _ hp2) nx2
   rw [mrk_snoc, zkn, ← List.append_assoc]
   refine ⟨by rw [za4, if_neg (by decide), hk 0 (by omega)]; exact hM.ha, ?_, by rw [za4, if_neg (by decide), hk 2 (by omega)]; exact hM.hw, ⟨w2, by rw [za4, if_pos rfl]; rfl, hG3.put (by decide) _⟩, hnx2⟩
   rw [za4, if_neg (by decide), hk 1 (by omega)]
   exact hM.hs
end Go.Proofs.Ytoagikifehmlpaa
namespace Go.Proofs.Ytoagikifehmlpaa
open Go Go.Am
structure GM (E : List (Nat × Nat)) (m : Nat) (g : List Int) (hp : List (Nat × Nat × AObj)) (nx : Nat) : Prop where
 h0 : Am.look 0 hp = some (0, .cells [.ms 1 0 1 0 m (some m)])
 h1 : Am.look 1 hp = some (0, .cells (g.map (AV.int .i64)))
 h2 : Am.look 2 hp = some (0, .cells [.fn 62 [] [.mptr 0 0 0, .vptr [cN E m], .mptr 2 0 0]])
 nx : 2 < nx
theorem GM.keep {E : List (Nat × Nat)} {m : Nat} {g : List Int} {H H' : HS} (h : GM E m g H.heap H.next) (k : Keep (fun j => 2 < j) H H') : GM E m g H'.heap H'.next := by
 have := h.nx
 have := k.next
 exact ⟨(k.look 0 (by decide) (by omega)).trans h.h0, (k.look 1 (by decide) (by omega)).trans h.h1, (k.look 2 (by decide) (by omega)).trans h.h2, by omega⟩
theorem zqa (k : Int) (v : Nat) : ∀ (D : List Nat) (g : List Int), zj0 k (g.set v k) D = (zj0 k g D).set v k
 | [], _ => rfl
 | d :: D, g => by
  show zj0 k ((g.set v k).set d k) D = (zj0 k (g.set d k) D).set v k
  rw [← zqa k v D]
  congr 1
  by_cases e : v = d
  ·rw [e]
  ·exact List.set_comm _ _ e
theorem zq9 (k : Int) (g : List Int) (A B : List Nat) : zj0 k g (A ++ B) = zj0 k (zj0 k g A) B := List.foldl_append ..
theorem zvg (k : Int) (g : List Int) (D : List Nat) (v : Nat) : zj0 k g (D ++ [v]) = zj0 k (g.set v k) D := by
 rw [zq9, zqa]
 rfl
theorem bs_set {k : Int} (hk : 0 ≤ k) (g : List Int) (v : Nat) : bsG (g.set v k) = (bsG g).set v true := zox hk [v] g
theorem bs_len (g : List Int) : (bsG g).length = g.length := List.length_map ..
def b62_0 : IC := .seq (.region [⟨(some 24), .bin .lss (.t 23) (.t 22), none⟩] none)
 (.seq (.cond (.t 24) (.skip)
 (.exit 0))
 (.seq (.block 1 (.seq (.region [⟨(some 25), .idxs 1 (.t 21) (.t 23), none⟩,
  ⟨(some 26), .load none (.t 25), none⟩,
  ⟨(some 8), .mov (.t 26), none⟩] none)
 (.region [⟨(some 27), .load none (.t 4), none⟩,
  ⟨(some 28), .mov (.t 8), none⟩,
  ⟨(some 29), .mov (.t 1), none⟩,
  ⟨(some 30), .call (.t 27) [(.t 28), (.t 29)], none⟩] none)))
 (.region [⟨(some 31), .bin .add (.t 23) (.c (.int .i64 1)), none⟩,
  ⟨(some 23), .mov (.t 31), none⟩] none)))
-- pneumatic/digraph.components$2
def ic62 : IC := .seq (.seq (.region [⟨(some 9), .load none (.t 2), none⟩,
  ⟨(some 10), .mov (.t 0), none⟩,
  ⟨(some 11), .idxs 1 (.t 9) (.t 10), none⟩,
  ⟨(some 12), .load none (.t 11), none⟩,
  ⟨(some 13), .bin .geq (.t 12) (.c (.int .i64 0)), none⟩] none)
 (.cond (.t 13) (.ret)
 (.skip)))
 (.seq (.region [⟨(some 14), .load none (.t 2), none⟩,
  ⟨(some 15), .mov (.t 0), none⟩,
  ⟨(some 16), .mov (.t 1), none⟩,
  ⟨(some 17), .idxs 1 (.t 14) (.t 15), none⟩,
  ⟨none, .store 1 (.t 17) (.t 16), none⟩] none)
 (.seq (.region [⟨(some 18), .load none (.t 3), none⟩,
  ⟨(some 19), .mov (.t 0), none⟩,
  ⟨(some 20), .idxs 1 (.t 18) (.t 19), none⟩,
  ⟨(some 21), .load none (.t 20), none⟩,
  ⟨(some 22), .len false (.t 21), none⟩,
  ⟨(some 23), .mov (.c (.int .i64 0)), none⟩] none)
 (.block 0 (.loop b62_0))))
theorem fn62 : env0.fn 62 = some ⟨32, ic62, []⟩ := by kernel_rfl
set_option maxHeartbeats 4000000 in
theorem zsq (m : Nat) (hm : m ≤ 256) (E : List (Nat × Nat)) (hb : ∀ u v, (u, v) ∈ E → u < m ∧ v < m) (w0 : World) (N0 : Nat) (k : Nat) : ∀ (n : Nat) (g : List Int) (v : Nat) (H : HS), unF (bsG g) < n → g.length = m → v < m → GM E m g H.heap H.next →
  FT Try.prog w0 N0 62 [.int .i64 (v : Nat), .int .i64 (k : Nat), .mptr 0 0 0, .vptr [cN E m], .mptr 2 0 0] H fun _ H' => ∃ D, Vis E m (bsG g) [v] D ∧ GM E m (zj0 (k : Int) g D) H'.heap H'.next ∧ Keep (fun j => j = 1) H H' := by
 have ez : ∀ o : Nat, 0 + ((o : Nat) : Int).toNat * 1 = o := fun o => by simp
 have hb2 := fun u v h => (hb u v h).2
 have hk0 : (0 : Int) ≤ (k : Nat) := Int.natCast_nonneg k
 intro n
 induction n with
 | zero => exact fun g v H h => absurd h (Nat.not_lt_zero _)
 | succ n ih =>
 intro g v H hun hgl hv hM
 refine zn4 env0_ok fn62 [(0, .int .i64 (v : Nat)), (1, .int .i64 (k : Nat)), (2, .mptr 0 0 0), (3, .vptr [cN E m]), (4, .mptr 2 0 0)] (by show 5 ≤ 32; decide) rfl ?_
 obtain ⟨hp, nx, ck⟩ := H
 have hM : GM E m g hp nx := hM
 have hnx := hM.nx
 show Zm _ _ _ _ _ (st 32 _ hp nx ck) _ _
 unfold ic62
 repeat (first | refine za6 ?_ | refine za0 rfl ?_)
 refine zak (id := 0) (sp := 0) (off := 0) rfl hM.h0 (by omega) rfl ?_
 repeat (first | refine za2 rfl ?_ | refine zaz rfl rfl (by omega) (by omega) ?_)
 rw [ez]
 refine zak (id := 1) (sp := 0) (off := v) rfl hM.h1 (by omega) (zpc (by omega)) ?_
 refine zao rfl rfl rfl (fun h3 => ?_) fun h3 => ?_
 ·have h3 : gI g v ≥ 0 := of_decide_eq_true h3
  repeat (first | refine za3 ?_ | refine za1 ?_ | refine zc5 rfl ?_ | refine zax ?_ | refine zam ?_)
  exact zav ⟨.inr rfl, _, rfl, [], .skip (l := []) (.nil _) (by show gB (bsG g) v = true; rw [zta]; exact decide_eq_true h3), hM, Keep.refl _ _⟩
 ·have h3 : ¬ gI g v ≥ 0 := of_decide_eq_false h3
  have hg : gB (bsG g) v = false := by rw [zta]; exact decide_eq_false h3
  have hun2 := zli (by rw [bs_len, hgl]; exact hv) hg
  have hgN := zjb (E := E) hv
  have hin : ∀ w ∈ nbr E m v, w < m := fun w hw => hb2 _ _ ((zcr hb2).1 hw)
  have hnl := zeo E m v
  repeat (first | refine za6 ?_ | refine za0 rfl ?_ | refine za3 ?_ | refine za1 ?_ | refine zad ?_ | refine zbp rfl ?_)
  refine zak (id := 0) (sp := 0) (off := 0) rfl hM.h0 (by omega) rfl ?_
  repeat (first | refine za2 rfl ?_ | refine zaz rfl rfl (by omega) (by omega) ?_)
  rw [ez]
  refine zbd (id := 1) (sp := 0) (off := v) rfl rfl rfl hM.h1 (by simp; omega) rfl ?_
  repeat (first | refine za6 ?_ | refine za0 rfl ?_ | refine za3 ?_ | refine za1 ?_ | refine zab ?_ | refine za2 rfl ?_ | refine zaf rfl rfl ?_ | refine zbh rfl rfl ?_ | refine zb0 rfl rfl (by omega) (by assumption) rfl ?_)
  have hvis : ∀ D, Vis E m (bsG (g.set v (k : Int))) (nbr E m v) D → Vis E m (bsG g) [v] (D ++ [v]) := fun D h => .go (l := []) (D := []) (.nil _) hg (by rw [bs_set hk0] at h; exact h)
  rw [← bs_set hk0] at hun2
  generalize hl : nbr E m v = l at *
  refine zb6 (fun mm S => ∃ j D H2, mm = l.length - j ∧ j ≤ l.length ∧ Vis E m (bsG (g.set v (k : Int))) (l.take j) D ∧ GM E m (zj0 (k : Int) (g.set v (k : Int)) D) H2.heap H2.next ∧ Keep (fun j => j = 1) ⟨hp, nx, ck⟩ H2 ∧ S = st 32 [(0, .int .i64 (v : Nat)), (1, .int .i64 (k : Nat)), (4, .mptr 2 0 0), (21, vN l), (22, .int .i64 ((l.map fun w => ([.int .i64 (w : Nat)] : List AV)).length : Nat)), (23, .int .i64 (j : Nat))] H2.heap H2.next H2.clk) l.length
   (za7 (.cons rfl (.cons rfl (.cons rfl (.cons rfl (.cons rfl (.cons rfl .nil))))))) ⟨0, [], ⟨zbo 1 _ hp, nx, ck⟩, rfl, Nat.zero_le _, .nil _, ⟨by show Am.look 0 (zbo 1 _ hp) = _; rw [za4, if_neg (by decide)]; exact hM.h0, by show Am.look 1 (zbo 1 _ hp) = _; rw [za4, if_pos rfl, ← List.map_set]; rfl, by show Am.look 2 (zbo 1 _ hp) = _; rw [za4, if_neg (by decide)]; exact hM.h2, hnx⟩, ⟨Nat.le_refl _, Nat.le_refl _, fun i hi _ => by show Am.look i (zbo 1 _ hp) = _; rw [za4, if_neg (fun e => hi e.symm)]⟩, rfl⟩ ?_
  rintro mm S ⟨j, D, H2, rfl, hj, hV, hM, hK, rfl⟩
  have hnx := hM.nx
  have hgl2 : (g.set v (k : Int)).length = m := by rw [List.length_set, hgl]
  have hvu := zw1 hb hV (by rw [bs_len, hgl2]) fun y hy => hin y (List.mem_of_mem_take hy)
  have hml : (zj0 (k : Int) (g.set v (k : Int)) D).length = m := by rw [zle, hgl2]
  unfold b62_0
  repeat (first | refine za6 ?_ | refine za0 rfl ?_)
  refine zao rfl rfl rfl (fun h4 => ?_) fun h4 => ?_
  ·have hlt2 : j < l.length := by
    have h5 : ((j : Nat) : Int) < (((l.map fun w => ([.int .i64 (w : Nat)] : List AV)).length : Nat) : Int) := of_decide_eq_true h4
    rw [List.length_map] at h5
    exact Int.ofNat_lt.1 h5
   have w2 : IntKind.wrap .i64 (((j : Nat) : Int) + 1) = ((j + 1 : Nat) : Int) := zag j (by omega)
   have hgv := zk1 hlt2
   have hym := hin l[j] (List.getElem_mem hlt2)
   have hts : l.take (j + 1) = l.take j ++ [l[j]] := by rw [List.take_add_one, List.getElem?_eq_getElem hlt2]; rfl
   generalize l[j] = y at *
   have hft := ih (zj0 (k : Int) (g.set v (k : Int)) D) y H2 (by rw [zox hk0]; omega) hml hym hM
   repeat (first | refine za6 ?_ | refine za0 rfl ?_ | refine za3 ?_ | refine za1 ?_ | refine zab ?_ | refine zad ?_ | refine zc5 rfl ?_ | refine za2 rfl ?_ | refine zaf rfl rfl ?_ | refine zb0 rfl rfl (by omega) (by assumption) rfl ?_)
   refine zak (id := 2) (sp := 0) (off := 0) rfl hM.h2 (by omega) rfl ?_
   repeat (first | refine za2 rfl ?_)
   refine o_ct _ rfl rfl (zsw hft) (fun v H _ m hm => absurd hm List.not_mem_nil) fun r H' hF => ?_
   obtain ⟨D2, hV2, hM2, hK2⟩ := hF
   have hV3 : Vis E m (bsG (g.set v (k : Int))) (l.take (j + 1)) (D ++ D2) := by
    rw [hts]
    rw [zox hk0] at hV2
    exact hV.snoc hV2
   repeat (first | refine za0 rfl ?_ | refine za3 ?_ | refine za1 ?_ | refine zb2 ?_ | refine za2 rfl ?_ | refine zay (op := .add) rfl rfl rfl ?_)
   rw [w2]
   refine zah (show l.length - (j + 1) < l.length - j by omega) (za7 (.cons rfl (.cons rfl (.cons rfl (.cons rfl (.cons rfl (.cons rfl .nil))))))) ⟨j + 1, D ++ D2, H', rfl, hlt2, hV3, ?_, hK.trans hK2, rfl⟩
   rw [zq9]
   exact hM2
  ·have hje : j = l.length := by
    have h5 : ¬ ((j : Nat) : Int) < (((l.map fun w => ([.int .i64 (w : Nat)] : List AV)).length : Nat) : Int) := of_decide_eq_false h4
    rw [List.length_map] at h5
    omega
   subst hje
   rw [List.take_length] at hV
   repeat (first | refine za6 ?_ | refine za3 ?_ | refine za1 ?_ | refine zbp rfl ?_ | refine zb4 ?_ | refine zac ?_)
   refine zbx ?_
   repeat (first | refine zb3 ?_)
   refine zav ⟨.inl rfl, _, rfl, D ++ [v], hvis D hV, ?_, hK⟩
   rw [zvg]
   exact hM
end Go.Proofs.Ytoagikifehmlpaa
namespace Go.Proofs.Ytoagikifehmlpaa
open Go Go.Am
theorem zj2 {i : Nat} {D : List Nat} (hi : i ∉ D) : ∀ l : List Nat, l.Nodup → i ∈ l → (l.filter fun j => !D.contains j).length = (l.filter fun j => !(i :: D).contains j).length + 1
 | [], _, h => by cases h
 | j :: l, hn, h => by
  obtain ⟨h1, h2⟩ := List.nodup_cons.1 hn
  rw [List.filter_cons, List.filter_cons]
  by_cases e : j = i
  ·subst e
   have e1 : (!D.contains j) = true := by simpa using hi
   have e2 : (!(j :: D).contains j) = false := by simp
   rw [if_pos e1, if_neg (by rw [e2]; exact Bool.false_ne_true), List.length_cons]
   congr 2
   refine List.filter_congr fun x hx => ?_
   have hx2 : x ≠ j := fun e => h1 (e ▸ hx)
   simp [hx2]
  ·have hm : i ∈ l := (List.mem_cons.1 h).resolve_left fun e2 => e e2.symm
   have ih := zj2 hi l h2 hm
   have e3 : (!(i :: D).contains j) = (!D.contains j) := by simp [e]
   rw [e3]
   split
   ·rw [List.length_cons, List.length_cons, ih]
   ·exact ih
theorem zro {p : Nat → Prop} : ∀ {l : List Nat}, (∀ i ∈ l, p i) → AllL p l
 | [], _ => trivial
 | i :: _, h => ⟨h i (List.mem_cons_self ..), zro fun j hj => h j (List.mem_cons_of_mem _ hj)⟩
theorem zr9 {pres : List (List Nat)} {N : Nat} {D : List Nat} (hp : ∀ i < N, ∀ p ∈ pres.getD i [], p < i) (h : zda pres N D = []) : ∀ i < N, i ∈ D := by
 intro i
 induction i using Nat.strongRecOn with
 | ind i ih =>
  intro hi
  refine Classical.byContradiction fun hni => ?_
  have : i ∈ zda pres N D := by
   unfold zda
   rw [List.mem_filter]
   refine ⟨List.mem_range.2 hi, ?_⟩
   rw [Bool.and_eq_true, List.all_eq_true]
   refine ⟨by simpa using hni, fun p hpp => ?_⟩
   have := hp i hi p hpp
   exact List.contains_iff_mem.2 (ih p this (by omega))
  rw [h] at this
  cases this
theorem zs1 {P : Program} {w0 : World} {N0 : Nat} {rd : Option (Nat × Nat)} {ios : List Opr} {pres : List (List Nat)} {K : AS → Prop} (hp : ∀ i < ios.length, ∀ p ∈ pres.getD i [], p < i) (I : List Nat → AS → Prop)
  (step : ∀ n D S i, I D S → i < ios.length → i ∉ D → (∀ p ∈ pres.getD i [], p ∈ D) → (∀ S', I (i :: D) S' → AnyF P w0 N0 rd ios pres n (i :: D) S' K) → StF P w0 N0 rd ios pres n D S K i)
  (fin : ∀ D S, I D S → (∀ i < ios.length, i ∈ D) → K S) : ∀ (n : Nat) (D : List Nat) (S : AS), I D S → ((List.range ios.length).filter fun i => !D.contains i).length = n → AnyF P w0 N0 rd ios pres n D S K
 | 0, D, S, hI, hn => by
  have h0 := List.length_eq_zero_iff.1 hn
  rw [List.filter_eq_nil_iff] at h0
  have hall : ∀ i < ios.length, i ∈ D := fun i hi => by
   have := h0 i (List.mem_range.2 hi)
   simpa using this
  refine ⟨?_, fin D S hI hall⟩
  unfold zda
  rw [List.filter_eq_nil_iff]
  intro i hi
  have := List.contains_iff_mem.2 (hall i (List.mem_range.1 hi))
  rw [this]
  simp
 | n + 1, D, S, hI, hn => by
  refine AnyF.succ (fun h => ?_) (zro fun i hi => ?_)
  ·have hall := zr9 hp h
   rw [List.filter_eq_nil_iff.2 fun i hi => by
    have := List.contains_iff_mem.2 (hall i (List.mem_range.1 hi))
    rw [this]
    simp] at hn
   cases hn
  ·unfold zda at hi
   rw [List.mem_filter, Bool.and_eq_true, List.all_eq_true] at hi
   obtain ⟨h1, h2, h3⟩ := hi
   have h2 : i ∉ D := by simpa using h2
   refine step n D S i hI (List.mem_range.1 h1) h2 (fun p hp => List.contains_iff_mem.1 (h3 p hp)) fun S' hI' => zs1 hp I step fin n (i :: D) S' hI' ?_
   have := zj2 h2 (List.range ios.length) List.nodup_range h1
   omega
theorem zu6 (d : Nat) (v : AV) (l : List (Nat × AV)) : zbu d ((d, v) :: l) = some v := by
 rw [zbu, Nat.beq_refl]
theorem zjj {d t : Nat} (h : d ≠ t) (v : AV) (l : List (Nat × AV)) : zbu t ((d, v) :: l) = zbu t l := by
 rw [zbu]
 cases hb : Nat.beq d t with
 | true => exact absurd (Nat.eq_of_beq_eq_true hb) h
 | false => rfl
def Lk (base : List (Nat × AV)) (dv : Nat → Option (Nat × AV)) (D : List Nat) (l : List (Nat × AV)) : Prop :=
 (∀ t v, (t, v) ∈ base → zbu t l = some v) ∧ ∀ j d v, dv j = some (d, v) → j ∈ D → zbu d l = some v
theorem Lk.add {base : List (Nat × AV)} {dv dv' : Nat → Option (Nat × AV)} {D : List Nat} {l : List (Nat × AV)} {i d : Nat} {v : AV} (h : Lk base dv D l) (hi : dv' i = some (d, v)) (hb : ∀ t v, (t, v) ∈ base → d ≠ t) (hs : ∀ j, j ∈ D → j ≠ i → dv' j = dv j) (hd : ∀ j e w, j ≠ i → dv' j = some (e, w) → d ≠ e) (hni : i ∉ D) :
  Lk base dv' (i :: D) ((d, v) :: l) := by
 refine ⟨fun t w ht => by rw [zjj (hb t w ht)]; exact h.1 t w ht, fun j e w hj hm => ?_⟩
 by_cases hji : j = i
 ·subst hji
  rw [hi] at hj
  injection hj with hj
  injection hj with h1 h2
  subst h1 h2
  exact zu6 ..
 ·rw [zjj (hd j e w hji hj)]
  have hm2 : j ∈ D := (List.mem_cons.1 hm).resolve_left hji
  exact h.2 j e w (by rw [← hs j hm2 hji]; exact hj) hm2
end Go.Proofs.Ytoagikifehmlpaa
namespace Go.Proofs.Ytoagikifehmlpaa
open Go Go.Am
def zv0 : List Opr := [⟨(some 19), .load (some 2) (.t 1), none⟩, ⟨(some 20), .call (.c (.fn 45 [] [])) [(.t 19)], none⟩, ⟨(some 21), .load (some 2) (.t 1), none⟩, ⟨(some 22), .call (.c (.fn 47 [] [])) [(.t 21)], none⟩, ⟨(some 23), .call (.c (.fn 45 [] [])) [(.t 22)], none⟩, ⟨(some 4), .alloc [.nils], none⟩, ⟨(some 5), .alloc [.nils], none⟩, ⟨none, .store 1 (.t 4) (.t 20), none⟩, ⟨none, .store 1 (.t 5) (.t 23), none⟩]
def reg43p : List (List Nat) := [[], [0], [], [2, 1], [3, 3], [], [], [5, 1, 4, 0, 1, 5, 6], [6, 4, 7, 0, 1, 2, 3, 4, 5, 6, 7]]
structure N43 where
 i5 : Nat
 s5 : Nat
 i6 : Nat
 s6 : Nat
def dv43 (gc : List AV) (A R B : AV) (q : N43) : Nat → Option (Nat × AV)
 | 0 => some (19, .agg gc)
 | 1 => some (20, A)
 | 2 => some (21, .agg gc)
 | 3 => some (22, R)
 | 4 => some (23, B)
 | 5 => some (4, .mptr q.i5 q.s5 0)
 | 6 => some (5, .mptr q.i6 q.s6 0)
 | _ => none
def dd43 : Nat → Nat
 | 5 => 4
 | 6 => 5
 | j => 19 + j
theorem dv43_dst {gc : List AV} {A R B : AV} {q : N43} : ∀ {j e : Nat} {v : AV}, dv43 gc A R B q j = some (e, v) → e = dd43 j ∧ j < 7
 | 0, _, _, h | 1, _, _, h | 2, _, _, h | 3, _, _, h | 4, _, _, h | 5, _, _, h | 6, _, _, h => by
  injection h with h
  injection h with h1 h2
  exact ⟨h1.symm, by decide⟩
 | j + 7, _, _, h => by cases h
theorem dd43_ne {i j : Nat} (hi : i < 7) (hj : j < 7) (h : j ≠ i) : dd43 i ≠ dd43 j := by
 have : ∀ a < 7, ∀ b < 7, b ≠ a → dd43 a ≠ dd43 b := by decide
 exact this i hi j hj h
structure M43 (A B : AV) (D : List Nat) (hp : List (Nat × Nat × AObj)) (nx : Nat) (q : N43) : Prop where
 h5 : 5 ∈ D → Am.look q.i5 hp = some (q.s5, .cells [if D.contains 7 then A else .nils])
 l5 : 5 ∈ D → q.i5 < nx
 h6 : 6 ∈ D → Am.look q.i6 hp = some (q.s6, .cells [if D.contains 8 then B else .nils])
 l6 : 6 ∈ D → q.i6 < nx
 ne : 5 ∈ D → 6 ∈ D → q.i5 ≠ q.i6
 c7 : 7 ∈ D → 5 ∈ D
 c8 : 8 ∈ D → 6 ∈ D
def zf6 (gc : List AV) : List (Nat × AV) := [(1, .vptr gc)]
def Inv43 (gc : List AV) (A R B : AV) (D : List Nat) (S : AS) : Prop :=
 ∃ l hp nx ck q, S = st 80 l hp nx ck ∧ Lk (zf6 gc) (dv43 gc A R B q) D l ∧ M43 A B D hp nx q
theorem zsa {gc : List AV} {j : Nat} (hj : j < 7) : ∀ t v, (t, v) ∈ zf6 gc → dd43 j ≠ t := fun t v h => by
 unfold zf6 at h
 simp only [List.mem_cons, Prod.mk.injEq, List.not_mem_nil, or_false] at h
 have : ∀ k < 7, 4 ≤ dd43 k := by decide
 have := this j hj
 omega
theorem M43.keep {A B : AV} {D : List Nat} {hp : List (Nat × Nat × AObj)} {nx j : Nat} {q : N43} (h : M43 A B D hp nx q) (n5 : j ≠ 5) (n6 : j ≠ 6) (n7 : j ≠ 7) (n8 : j ≠ 8) : M43 A B (j :: D) hp nx q := by
 have e : ∀ k, j ≠ k → k ∈ j :: D → k ∈ D := fun k hk hm => (List.mem_cons.1 hm).resolve_left fun e => hk e.symm
 have c : ∀ k, j ≠ k → (j :: D).contains k = D.contains k := fun k hk => by rw [List.contains_cons, show (k == j) = false from beq_eq_false_iff_ne.2 fun e => hk e.symm, Bool.false_or]
 exact ⟨fun a => by rw [c 7 n7]; exact h.h5 (e 5 n5 a), fun a => h.l5 (e 5 n5 a), fun a => by rw [c 8 n8]; exact h.h6 (e 6 n6 a), fun a => h.l6 (e 6 n6 a), fun a b => h.ne (e 5 n5 a) (e 6 n6 b), fun a => List.mem_cons_of_mem _ (h.c7 (e 7 n7 a)), fun a => List.mem_cons_of_mem _ (h.c8 (e 8 n8 a))⟩
set_option maxHeartbeats 1000000 in
theorem step43 {w0 : World} {N0 : Nat} {rd : Option (Nat × Nat)} {K : AS → Prop} (gc : List AV) (A R B : AV) (hl2 : gc.length = 2) (hA : A.cells? = some [A]) (hB : B.cells? = some [B]) (cA : A.isCell = true) (cB : B.isCell = true) (mA : hasM (.agg gc) = false) (mR : hasM R = false)
  (hvA : ∀ S : AS, S.view VD (.agg gc) = .agg gc) (hvR : ∀ S : AS, S.view VD R = R) (p1 : PF Try.prog 45 [.agg gc] A) (p2 : PF Try.prog 47 [.agg gc] R) (p3 : PF Try.prog 45 [R] B)
  (r : Nat) (D : List Nat) (S : AS) (j : Nat) (hI : Inv43 gc A R B D S) (hj : j < 9) (hni : j ∉ D) (hpre : ∀ p ∈ reg43p.getD j [], p ∈ D)
  (go : ∀ S', Inv43 gc A R B (j :: D) S' → AnyF Try.prog w0 N0 rd zv0 reg43p r (j :: D) S' K) : StF Try.prog w0 N0 rd zv0 reg43p r D S K j := by
 obtain ⟨l, hp, nx, ck, q, rfl, hL, hP⟩ := hI
 have b1 : zbu 1 l = some (.vptr gc) := hL.1 _ _ (by unfold zf6; simp)
 have pr : ∀ k d v, dv43 gc A R B q k = some (d, v) → k ∈ D → zbu d l = some v := hL.2
 have ad : ∀ {i : Nat} {v : AV} {q' : N43}, i < 7 → i ∉ D → dv43 gc A R B q' i = some (dd43 i, v) → (∀ k, k ∈ D → k ≠ i → dv43 gc A R B q' k = dv43 gc A R B q k) → Lk (zf6 gc) (dv43 gc A R B q') (i :: D) ((dd43 i, v) :: l) := fun hi hn hv hs => hL.add hv (zsa hi) hs (fun k e v hk he => by
  obtain ⟨e1, e2⟩ := dv43_dst he
  rw [e1]
  exact dd43_ne hi e2 hk) hn
 have mk0 : zcq [] hp := fun _ h => absurd h List.not_mem_nil
 have gl : iop (st 80 l hp nx ck) (.load (some 2) (.t 1)) = some (.agg gc, st 80 l hp nx ck) := znl b1 rfl (by rw [hl2]; rfl) (by rw [← hl2, List.take_length])
 match j, hj, hni, hpre, go with
 | 0, _, hni, hpre, go => exact zql (i := 0) rfl rfl gl (go _ ⟨_, _, _, _, q, rfl, ad (i := 0) (by decide) hni rfl (fun _ _ _ => rfl), hP.keep (by decide) (by decide) (by decide) (by decide)⟩)
 | 2, _, hni, hpre, go => exact zql (i := 2) rfl rfl gl (go _ ⟨_, _, _, _, q, rfl, ad (i := 2) (by decide) hni rfl (fun _ _ _ => rfl), hP.keep (by decide) (by decide) (by decide) (by decide)⟩)
 | 1, _, hni, hpre, go =>
  have h0 := pr 0 19 _ rfl (hpre 0 (by decide))
  exact zn8 (i := 1) (vs := [.agg gc]) rfl rfl (by simp only [zft, zbg, h0]) (by rw [List.map_cons, hvA]; rfl) p1 (fun h => absurd h (by show ¬ (hasM (.agg gc) || false) = true; rw [mA]; simp)) mk0 (go _ ⟨_, _, _, _, q, rfl, ad (i := 1) (by decide) hni rfl (fun _ _ _ => rfl), hP.keep (by decide) (by decide) (by decide) (by decide)⟩)
 | 3, _, hni, hpre, go =>
  have h0 := pr 2 21 _ rfl (hpre 2 (by decide))
  exact zn8 (i := 3) (vs := [.agg gc]) rfl rfl (by simp only [zft, zbg, h0]) (by rw [List.map_cons, hvA]; rfl) p2 (fun h => absurd h (by show ¬ (hasM (.agg gc) || false) = true; rw [mA]; simp)) mk0 (go _ ⟨_, _, _, _, q, rfl, ad (i := 3) (by decide) hni rfl (fun _ _ _ => rfl), hP.keep (by decide) (by decide) (by decide) (by decide)⟩)
 | 4, _, hni, hpre, go =>
  have h0 := pr 3 22 _ rfl (hpre 3 (by decide))
  exact zn8 (i := 4) (vs := [R]) rfl rfl (by simp only [zft, zbg, h0]) (by rw [List.map_cons, hvR]; rfl) p3 (fun h => absurd h (by show ¬ (hasM R || false) = true; rw [mR]; simp)) mk0 (go _ ⟨_, _, _, _, q, rfl, ad (i := 4) (by decide) hni rfl (fun _ _ _ => rfl), hP.keep (by decide) (by decide) (by decide) (by decide)⟩)
 | 5, _, hni, hpre, go =>
  have n7 : 7 ∉ D := fun h => hni (hP.c7 h)
  refine zql (i := 5) rfl rfl znj (go _ ⟨_, _, _, _, { q with i5 := nx, s5 := ck }, rfl, ad (i := 5) (by decide) hni rfl (fun k hk hkj => by
   match k, hkj with
   | 0, _ | 1, _ | 2, _ | 3, _ | 4, _ | 6, _ => rfl
   | 5, h => exact absurd rfl h
   | k + 7, _ => rfl), ?_⟩)
  have e : ∀ k, 5 ≠ k → k ∈ 5 :: D → k ∈ D := fun k hk hm => (List.mem_cons.1 hm).resolve_left fun e => hk e.symm
  have c : ∀ k, 5 ≠ k → (5 :: D).contains k = D.contains k := fun k hk => by rw [List.contains_cons, show (k == 5) = false from beq_eq_false_iff_ne.2 fun e => hk e.symm, Bool.false_or]
  have c7 : D.contains 7 = false := by simpa using n7
  refine ⟨fun _ => by rw [c 7 (by decide), c7]; exact zbe, fun _ => Nat.lt_succ_self _, fun a => ?_, fun a => ?_, fun _ b => ?_, fun a => absurd (e 7 (by decide) a) n7, fun a => List.mem_cons_of_mem _ (hP.c8 (e 8 (by decide) a))⟩
  ·rw [c 8 (by decide), za9, if_neg (by have := hP.l6 (e 6 (by decide) a); show ¬ nx = q.i6; omega)]
   exact hP.h6 (e 6 (by decide) a)
  ·have := hP.l6 (e 6 (by decide) a); show q.i6 < nx + 1; omega
  ·have := hP.l6 (e 6 (by decide) b); show nx ≠ q.i6; omega
 | 6, _, hni, hpre, go =>
  have n8 : 8 ∉ D := fun h => hni (hP.c8 h)
  refine zql (i := 6) rfl rfl znj (go _ ⟨_, _, _, _, { q with i6 := nx, s6 := ck }, rfl, ad (i := 6) (by decide) hni rfl (fun k hk hkj => by
   match k, hkj with
   | 0, _ | 1, _ | 2, _ | 3, _ | 4, _ | 5, _ => rfl
   | 6, h => exact absurd rfl h
   | k + 7, _ => rfl), ?_⟩)
  have e : ∀ k, 6 ≠ k → k ∈ 6 :: D → k ∈ D := fun k hk hm => (List.mem_cons.1 hm).resolve_left fun e => hk e.symm
  have c : ∀ k, 6 ≠ k → (6 :: D).contains k = D.contains k := fun k hk => by rw [List.contains_cons, show (k == 6) = false from beq_eq_false_iff_ne.2 fun e => hk e.symm, Bool.false_or]
  have c8 : D.contains 8 = false := by simpa using n8
  refine ⟨fun a => ?_, fun a => ?_, fun _ => by rw [c 8 (by decide), c8]; exact zbe, fun _ => Nat.lt_succ_self _, fun a _ => ?_, fun a => List.mem_cons_of_mem _ (hP.c7 (e 7 (by decide) a)), fun a => absurd (e 8 (by decide) a) n8⟩
  ·rw [c 7 (by decide), za9, if_neg (by have := hP.l5 (e 5 (by decide) a); show ¬ nx = q.i5; omega)]
   exact hP.h5 (e 5 (by decide) a)
  ·have := hP.l5 (e 5 (by decide) a); show q.i5 < nx + 1; omega
  ·have := hP.l5 (e 5 (by decide) a); show q.i5 ≠ nx; omega
 | 7, _, hni, hpre, go =>
  have h4 := pr 5 4 _ rfl (hpre 5 (by decide))
  have h20 := pr 1 20 _ rfl (hpre 1 (by decide))
  have m5 : 5 ∈ D := hpre 5 (by decide)
  have m6 : 6 ∈ D := hpre 6 (by decide)
  have hk := hP.h5 m5
  refine zom (i := 7) rfl (zi8 (id := q.i5) (sp := q.s5) (off := 0) h4 h20 hA rfl hk rfl (by show (A.isCell && true) = true; rw [cA]; rfl)) (go _ ⟨_, _, _, _, q, rfl, ⟨hL.1, fun k d v hk hm => ?_⟩, ?_⟩)
  ·rcases List.mem_cons.1 hm with rfl | hm
   ·cases hk
   ·exact hL.2 k d v hk hm
  ·have c : (7 :: D).contains 8 = D.contains 8 := by rw [List.contains_cons, show ((8 : Nat) == 7) = false from rfl, Bool.false_or]
   refine ⟨fun _ => ?_, fun _ => hP.l5 m5, fun a => ?_, fun _ => hP.l6 m6, fun _ _ => hP.ne m5 m6, fun _ => List.mem_cons_of_mem _ m5, fun _ => List.mem_cons_of_mem _ m6⟩
   ·rw [za4, if_pos rfl, List.contains_cons, show ((7 : Nat) == 7) = true from rfl, Bool.true_or, if_pos rfl]
    rfl
   ·rw [c, za4, if_neg (hP.ne m5 m6)]
    exact hP.h6 m6
 | 8, _, hni, hpre, go =>
  have h5 := pr 6 5 _ rfl (hpre 6 (by decide))
  have h23 := pr 4 23 _ rfl (hpre 4 (by decide))
  have m5 : 5 ∈ D := hpre 5 (by decide)
  have m6 : 6 ∈ D := hpre 6 (by decide)
  have hk := hP.h6 m6
  refine zom (i := 8) rfl (zi8 (id := q.i6) (sp := q.s6) (off := 0) h5 h23 hB rfl hk rfl (by show (B.isCell && true) = true; rw [cB]; rfl)) (go _ ⟨_, _, _, _, q, rfl, ⟨hL.1, fun k d v hk hm => ?_⟩, ?_⟩)
  ·rcases List.mem_cons.1 hm with rfl | hm
   ·cases hk
   ·exact hL.2 k d v hk hm
  ·have c : (8 :: D).contains 7 = D.contains 7 := by rw [List.contains_cons, show ((7 : Nat) == 8) = false from rfl, Bool.false_or]
   refine ⟨fun a => ?_, fun _ => hP.l5 m5, fun _ => ?_, fun _ => hP.l6 m6, fun _ _ => hP.ne m5 m6, fun _ => List.mem_cons_of_mem _ m5, fun _ => List.mem_cons_of_mem _ m6⟩
   ·rw [c, za4, if_neg fun e => hP.ne m5 m6 e.symm]
    exact hP.h5 m5
   ·rw [za4, if_pos rfl, List.contains_cons, show ((8 : Nat) == 8) = true from rfl, Bool.true_or, if_pos rfl]
    rfl
 | j + 9, hj, _, _, _ => exact absurd hj (by omega)
theorem nets43 {w0 : World} {N0 : Nat} {k : List Fr} {Q : Exit → AS → Prop} {y : IC} (gc : List AV) (A R B : AV) (hl2 : gc.length = 2) (hA : A.cells? = some [A]) (hB : B.cells? = some [B]) (cA : A.isCell = true) (cB : B.isCell = true) (mG : hasM (.agg gc) = false) (mR : hasM R = false) (mA : hasM A = false) (mB : hasM B = false)
  (hvA : ∀ S : AS, S.view VD (.agg gc) = .agg gc) (hvR : ∀ S : AS, S.view VD R = R) (p1 : PF Try.prog 45 [.agg gc] A) (p2 : PF Try.prog 47 [.agg gc] R) (p3 : PF Try.prog 45 [R] B)
  (fin : Zm Try.prog w0 N0 none y (st 80 [(4, .mptr 0 0 0), (5, .mptr 1 0 0), (1, .vptr gc)] [(0, 0, .cells [A]), (1, 0, .cells [B])] 2 1) k Q) :
  Zm Try.prog w0 N0 none (.region zv0 (some reg43p)) (st 80 (zf6 gc) [] 0 1) (.seq y :: k) Q := by
 refine z_any env0_ok.mix fun rd => zs1 (by decide) (Inv43 gc A R B) (fun r D S j hI hj hni hpre go => step43 gc A R B hl2 hA hB cA cB mG mR hvA hvR p1 p2 p3 r D S j hI hj hni hpre go) (fun D S hI hall => Um.ok ?_) 9 [] _ ⟨_, _, _, _, ⟨0, 0, 0, 0⟩, rfl, ⟨fun t v h => ?_, fun _ _ _ _ h => (by cases h)⟩, ⟨fun h => (by cases h), fun h => (by cases h), fun h => (by cases h), fun h => (by cases h), fun h => (by cases h), fun h => (by cases h), fun h => (by cases h)⟩⟩ rfl
 ·obtain ⟨l, hp, nx, ck, q, rfl, hL, hP⟩ := hI
  have h4 := hL.2 5 4 _ rfl (hall 5 (by decide))
  have h5 := hL.2 6 5 _ rfl (hall 6 (by decide))
  have b1 : zbu 1 l = some (.vptr gc) := hL.1 _ _ (by unfold zf6; simp)
  have k5 := hP.h5 (hall 5 (by decide))
  have k6 := hP.h6 (hall 6 (by decide))
  rw [List.contains_iff_mem.2 (hall 7 (by decide)), if_pos rfl] at k5
  rw [List.contains_iff_mem.2 (hall 8 (by decide)), if_pos rfl] at k6
  have hne := hP.ne (hall 5 (by decide)) (hall 6 (by decide))
  refine za1 ?_
  refine zba [(some (q.i5, q.s5), [A]), (some (q.i6, q.s6), [B])] [] [(4, .mptr 0 0 0), (5, .mptr 1 0 0), (1, .vptr gc)] ?_ .nil (.cons k5 (.cons (.same mA) .nil) (.cons k6 (.cons (.same mB) .nil) .nil)) (.cons h4 (.mptr rfl) (.cons h5 (.mptr rfl) (.cons b1 (.same rfl) .nil))) fin
  show (!zl1 q.i5 [] && (!zl1 q.i6 [q.i5] && true)) = true
  have : zl1 q.i6 [q.i5] = false := by
   cases hb : zl1 q.i6 [q.i5] with
   | false => rfl
   | true => exact absurd (List.mem_singleton.1 (zey.1 hb)) fun e => hne e.symm
  rw [this]
  rfl
 ·unfold zf6 at *
  obtain ⟨rfl, rfl⟩ : t = 1 ∧ v = .vptr gc := by simpa using h
  rfl
end Go.Proofs.Ytoagikifehmlpaa
namespace Go.Proofs.Ytoagikifehmlpaa
open Go Go.Am
theorem isOut_or {e : Exit} (h : zr1 e = true) : e = .normal ∨ e = .ret := by
 cases e <;> first
  | exact .inl rfl
  | exact .inr rfl
  | cases h
theorem z_endrun {P : Program} {E : Env} {w0 : World} {N0 : Nat} (hE : EnvOk P E) (n : Nat) {fi : FnI} {ic : IC} {S : AS} {v : AV} (h : seeK v (endK fi (zh0 P E (lvlK P E n) none ic S)) = true) :
  Zm P w0 N0 none ic S [] fun e S' => (e = .normal ∨ e = .ret) ∧ ∃ v0, S'.leave.res fi.res = some v0 ∧ (⟨0, .nil, S'.leave.heap, S'.leave.next, S'.leave.clk, []⟩ : AS).view VD v0 = v := by
 cases hr : zh0 P E (lvlK P E n) none ic S with
 | none => rw [hr] at h; cases h
 | some r =>
  obtain ⟨e, S'⟩ := r
  rw [hr] at h
  unfold endK at h
  cases ho : zr1 e with
  | false => simp only [ho, cond_false] at h; cases h
  | true =>
   simp only [ho, cond_true] at h
   rw [zlc, zo1] at hr
   refine ⟨zn5 (zn6 (zoa hE (zu7 hE n) hr)) ?_⟩
   rintro e1 S1 ⟨rfl, rfl⟩
   refine ⟨isOut_or ho, ?_⟩
   cases hv : S1.leave.res fi.res with
   | none => rw [hv] at h; cases h
   | some v0 =>
    rw [hv] at h
    exact ⟨v0, rfl, AV.eq_of_beq _ _ h⟩
end Go.Proofs.Ytoagikifehmlpaa
namespace Go.Proofs.Ytoagikifehmlpaa
open Go Go.Am
def smp : List (Nat × Nat) := [(0, 2), (2, 1), (1, 0), (2, 3), (0, 3)]
def smr : List (Nat × Nat) := [(2, 0), (1, 2), (0, 1), (3, 2), (3, 0)]
def smb : List (Nat × Nat) := [(0, 1), (0, 1)]
def smo : List (Nat × Nat) := [(3, 1), (1, 0), (3, 0), (2, 0)]
def tab1 : Tab := [(45, [
 ([.agg [.int .i64 5, .vs [[.int .i64 0, .int .i64 2], [.int .i64 2, .int .i64 1], [.int .i64 1, .int .i64 0], [.int .i64 2, .int .i64 3], [.int .i64 0, .int .i64 3]]]], .vs [[.vs [[.int .i64 2], [.int .i64 3]]], [.vs [[.int .i64 0]]], [.vs [[.int .i64 1], [.int .i64 3]]], [.vs []], [.vs []]]),
 ([.agg [.int .i64 5, .vs [[.int .i64 2, .int .i64 0], [.int .i64 1, .int .i64 2], [.int .i64 0, .int .i64 1], [.int .i64 3, .int .i64 2], [.int .i64 3, .int .i64 0]]]], .vs [[.vs [[.int .i64 1]]], [.vs [[.int .i64 2]]], [.vs [[.int .i64 0]]], [.vs [[.int .i64 0], [.int .i64 2]]], [.vs []]]),
 ([.agg [.int .i64 3, .vs [[.int .i64 0, .int .i64 1], [.int .i64 0, .int .i64 1]]]], .vs [[.vs [[.int .i64 1]]], [.vs []], [.vs []]]),
 ([.agg [.int .i64 4, .vs [[.int .i64 3, .int .i64 1], [.int .i64 1, .int .i64 0], [.int .i64 3, .int .i64 0], [.int .i64 2, .int .i64 0]]]], .vs [[.vs []], [.vs [[.int .i64 0]]], [.vs [[.int .i64 0]]], [.vs [[.int .i64 0], [.int .i64 1]]]])])]
theorem inR (m : Nat) (E : List (Nat × Nat)) (h : (E.all fun e => Nat.blt e.1 m && Nat.blt e.2 m) = true) : ∀ u v, (u, v) ∈ E → u < m ∧ v < m := fun u v hm => by
 have := List.all_eq_true.1 h _ hm
 rw [Bool.and_eq_true] at this
 exact ⟨Nat.le_of_ble_eq_true this.1, Nat.le_of_ble_eq_true this.2⟩
theorem zev : TabOk Try.prog tab1 := by
 intro x hx y hy
 unfold tab1 at hx
 obtain rfl := List.mem_singleton.1 hx
 simp only [List.mem_cons, List.not_mem_nil, or_false] at hy
 rcases hy with rfl | rfl | rfl | rfl
 ·have := zds 5 (by decide) smp (by decide) (inR 5 smp (by decide))
  rw [show cN smp 5 = _ from (by kernel_rfl : cN smp 5 = .vs [[.vs [[.int .i64 2], [.int .i64 3]]], [.vs [[.int .i64 0]]], [.vs [[.int .i64 1], [.int .i64 3]]], [.vs []], [.vs []]])] at this
  exact this
 ·have := zds 5 (by decide) smr (by decide) (inR 5 smr (by decide))
  rw [show cN smr 5 = _ from (by kernel_rfl : cN smr 5 = .vs [[.vs [[.int .i64 1]]], [.vs [[.int .i64 2]]], [.vs [[.int .i64 0]]], [.vs [[.int .i64 0], [.int .i64 2]]], [.vs []]])] at this
  exact this
 ·have := zds 3 (by decide) smb (by decide) (inR 3 smb (by decide))
  rw [show cN smb 3 = _ from (by kernel_rfl : cN smb 3 = .vs [[.vs [[.int .i64 1]]], [.vs []], [.vs []]])] at this
  exact this
 ·have := zds 4 (by decide) smo (by decide) (inR 4 smo (by decide))
  rw [show cN smo 4 = _ from (by kernel_rfl : cN smo 4 = .vs [[.vs []], [.vs [[.int .i64 0]]], [.vs [[.int .i64 0]]], [.vs [[.int .i64 0], [.int .i64 1]]]])] at this
  exact this
def gcA : List AV := [.int .i64 5, .vs [[.int .i64 0, .int .i64 2], [.int .i64 2, .int .i64 1], [.int .i64 1, .int .i64 0], [.int .i64 2, .int .i64 3], [.int .i64 0, .int .i64 3]]]
def tab47 : Tab := [(47, [([.agg gcA], .agg [.int .i64 5, .vs [[.int .i64 2, .int .i64 0], [.int .i64 1, .int .i64 2], [.int .i64 0, .int .i64 1], [.int .i64 3, .int .i64 2], [.int .i64 3, .int .i64 0]]])])]
theorem tab47_ok : TabOk Try.prog tab47 := TabOk.of_run (env0_ok.tab TabOk.nil (pure := [])) (n := 80) (by kernel_rfl)
noncomputable def zhn : Code := match env0.fn 43 with
 | some i => ((zdw i.ic)[0]?.getD (.skip, .skip)).1
 | none => .skip
noncomputable def zhq : Code := match env0.fn 43 with
 | some i => ((zdw i.ic)[0]?.getD (.skip, .skip)).2
 | none => .skip
def b43_0 : IC := .seq (.region [⟨(some 31), .bin .lss (.t 30) (.t 29), none⟩] none)
 (.seq (.cond (.t 31) (.skip)
 (.exit 0))
 (.seq (.block 1 (.seq (.region [⟨(some 32), .mov (.t 30), none⟩,
  ⟨(some 9), .mov (.t 32), none⟩] none)
 (.region [⟨(some 33), .load none (.t 8), none⟩,
  ⟨(some 34), .mov (.t 9), none⟩,
  ⟨(some 35), .call (.t 33) [(.t 34)], none⟩] none)))
 (.region [⟨(some 36), .bin .add (.t 30) (.c (.int .i64 1)), none⟩,
  ⟨(some 30), .mov (.t 36), none⟩] none)))
def b43_4 : IC := .seq (.region [⟨(some 54), .bin .lss (.t 53) (.t 52), none⟩] none)
 (.seq (.cond (.t 54) (.skip)
 (.exit 4))
 (.seq (.block 5 (.seq (.region [⟨(some 55), .mov (.t 53), none⟩,
  ⟨(some 56), .idxs 1 (.t 51) (.t 53), none⟩,
  ⟨(some 57), .load none (.t 56), none⟩,
  ⟨(some 15), .mov (.t 55), none⟩,
  ⟨(some 16), .mov (.t 57), none⟩] none)
 (.seq (.seq (.region [⟨(some 59), .mov (.t 14), none⟩,
  ⟨(some 60), .mov (.t 16), none⟩,
  ⟨(some 61), .mapget .int (.int .i64 0) true (.t 59) (.t 60), none⟩,
  ⟨(some 58), .mov (.t 61), none⟩,
  ⟨(some 62), .extract (.t 58) 0, none⟩,
  ⟨(some 63), .extract (.t 58) 1, none⟩,
  ⟨(some 17), .mov (.t 62), none⟩,
  ⟨(some 18), .mov (.t 63), none⟩] none)
 (.seq (.region [⟨(some 64), .mov (.t 18), none⟩,
  ⟨(some 65), .un .not (.t 64), none⟩] none)
 (.cond (.t 65) (.region [⟨(some 66), .mov (.t 14), none⟩,
  ⟨(some 67), .mov (.t 16), none⟩,
  ⟨(some 68), .mov (.t 14), none⟩,
  ⟨(some 69), .mapget .int (.top) false (.t 68) (.c (.int .i64 0)), none⟩,
  ⟨none, .mapset .int (.t 66) (.t 67) (.t 69), none⟩] none)
 (.skip))))
 (.region [⟨(some 70), .load none (.t 10), none⟩,
  ⟨(some 71), .mov (.t 15), none⟩,
  ⟨(some 72), .mov (.t 14), none⟩,
  ⟨(some 73), .mov (.t 16), none⟩,
  ⟨(some 74), .mapget .int (.int .i64 0) false (.t 72) (.t 73), none⟩,
  ⟨(some 75), .idxs 1 (.t 70) (.t 71), none⟩,
  ⟨none, .store 1 (.t 75) (.t 74), none⟩] none))))
 (.region [⟨(some 76), .bin .add (.t 53) (.c (.int .i64 1)), none⟩,
  ⟨(some 53), .mov (.t 76), none⟩] none)))
def zna : IC := .seq (.region [⟨(some 12), .mov (.t 44), none⟩] none)
 (.region [⟨(some 13), .mov (.t 45), none⟩] none)
def zuy : IC := .block 3 (.region [⟨(some 46), .load none (.t 11), none⟩,
  ⟨(some 47), .mov (.t 13), none⟩,
  ⟨(some 48), .mov (.t 12), none⟩,
  ⟨(some 49), .call (.t 46) [(.t 47), (.t 48)], none⟩] none)
-- pneumatic/digraph.components
noncomputable def ic43 : IC := .seq (.region [⟨(some 1), .box (.t 0), none⟩,
  ⟨(some 2), .mov (.c (.nils)), none⟩,
  ⟨(some 3), .mov (.c (.int .i64 0)), none⟩] none)
 (.seq (.region [⟨(some 19), .load (some 2) (.t 1), none⟩,
  ⟨(some 20), .call (.c (.fn 45 [] [])) [(.t 19)], none⟩,
  ⟨(some 21), .load (some 2) (.t 1), none⟩,
  ⟨(some 22), .call (.c (.fn 47 [] [])) [(.t 21)], none⟩,
  ⟨(some 23), .call (.c (.fn 45 [] [])) [(.t 22)], none⟩,
  ⟨(some 4), .alloc [.nils], none⟩,
  ⟨(some 5), .alloc [.nils], none⟩,
  ⟨none, .store 1 (.t 4) (.t 20), none⟩,
  ⟨none, .store 1 (.t 5) (.t 23), none⟩] (some [[], [0], [], [2, 1], [3, 3], [], [], [5, 1, 4, 0, 1, 5, 6], [6, 4, 7, 0, 1, 2, 3, 4, 5, 6, 7]]))
 (.seq (.region [⟨(some 24), .faddr 0 (.t 1), none⟩,
  ⟨(some 25), .load none (.t 24), none⟩,
  ⟨(some 26), .mkslice 1 1 [.bool false] (.t 25) (.t 25), none⟩,
  ⟨(some 6), .alloc [.nils], none⟩,
  ⟨none, .store 1 (.t 6) (.t 26), none⟩] none)
 (.seq (.region [⟨(some 7), .alloc [.nils], none⟩] none)
 (.seq (.region [⟨(some 8), .alloc [.nilf], none⟩] none)
 (.seq (.region [⟨(some 27), .mkfn 60 [] [(.t 6), (.t 4), (.t 8), (.t 7)], none⟩,
  ⟨none, .store 1 (.t 8) (.t 27), none⟩] none)
 (.seq (.seq (.region [⟨(some 28), .load none (.t 4), none⟩,
  ⟨(some 29), .len false (.t 28), none⟩,
  ⟨(some 30), .mov (.c (.int .i64 0)), none⟩] none)
 (.block 0 (.loop b43_0)))
 (.seq (.region [⟨(some 37), .bslice 1 1 [.int .i64 0] [(0, 1, (.c (.int .i64 (-1))))], none⟩,
  ⟨(some 38), .faddr 0 (.t 1), none⟩,
  ⟨(some 39), .load none (.t 38), none⟩,
  ⟨(some 40), .call (.c (.fn 61 [] [])) [(.t 37), (.t 39)], none⟩,
  ⟨(some 10), .alloc [.nils], none⟩,
  ⟨none, .store 1 (.t 10) (.t 40), none⟩] none)
 (.seq (.region [⟨(some 11), .alloc [.nilf], none⟩] none)
 (.seq (.region [⟨(some 41), .mkfn 62 [] [(.t 10), (.t 5), (.t 11)], none⟩,
  ⟨none, .store 1 (.t 11) (.t 41), none⟩] none)
 (.seq (.seq (.region [⟨(some 42), .load none (.t 7), none⟩,
  ⟨(some 43), .call (.c (.fn 63 [] [])) [(.t 42)], none⟩] none)
 (.block 2 (.rangeFunc (.t 43) [44, 45] zhn zhq zna zuy)))
 (.seq (.region [⟨(some 50), .mkmap, none⟩,
  ⟨(some 14), .mov (.t 50), none⟩] none)
 (.seq (.seq (.region [⟨(some 51), .load none (.t 10), none⟩,
  ⟨(some 52), .len false (.t 51), none⟩,
  ⟨(some 53), .mov (.c (.int .i64 0)), none⟩] none)
 (.block 4 (.loop b43_4)))
 (.seq (.region [⟨(some 77), .load none (.t 10), none⟩,
  ⟨(some 78), .mov (.t 14), none⟩,
  ⟨(some 79), .mapget .int (.top) false (.t 78) (.c (.int .i64 0)), none⟩,
  ⟨(some 2), .mov (.t 77), none⟩,
  ⟨(some 3), .mov (.t 79), none⟩] none)
 (.ret))))))))))))))
theorem fn43 : env0.fn 43 = some ⟨80, ic43, [.t 2, .t 3]⟩ := by kernel_rfl
def netA : AV := .vs [[.vs [[.int .i64 2], [.int .i64 3]]], [.vs [[.int .i64 0]]], [.vs [[.int .i64 1], [.int .i64 3]]], [.vs []], [.vs []]]
def netB : AV := .vs [[.vs [[.int .i64 1]]], [.vs [[.int .i64 2]]], [.vs [[.int .i64 0]]], [.vs [[.int .i64 0], [.int .i64 2]]], [.vs []]]
def revA : AV := .agg [.int .i64 5, .vs [[.int .i64 2, .int .i64 0], [.int .i64 1, .int .i64 2], [.int .i64 0, .int .i64 1], [.int .i64 3, .int .i64 2], [.int .i64 3, .int .i64 0]]]
theorem p1A : PF Try.prog 45 [.agg gcA] netA := zev _ (List.mem_cons_self ..) _ (List.mem_cons_self ..)
theorem p2A : PF Try.prog 47 [.agg gcA] revA := tab47_ok _ (List.mem_cons_self ..) _ (List.mem_cons_self ..)
theorem p3A : PF Try.prog 45 [revA] netB := zev _ (List.mem_cons_self ..) _ (List.mem_cons_of_mem _ (List.mem_cons_self ..))
theorem comps43 : PF Try.prog 43 [.agg gcA] (.tup [.vs [[.int .i64 0], [.int .i64 0], [.int .i64 0], [.int .i64 1], [.int .i64 2]], .int .i64 3]) := by
 refine zb7 env0_ok fn43 [(0, .agg gcA)] (by show 1 ≤ 80; decide) rfl fun w0 N0 => ?_
 unfold ic43
 refine za6 (za0 rfl (zdh (cs := gcA) rfl rfl (za2 rfl (za2 rfl (za3 (za1 ?_))))))
 refine zba [] [(0, 0, gcA)] (zf6 gcA) rfl (.cons rfl rfl .nil) .nil (.cons rfl (.fptr rfl rfl) .nil) ?_
 refine za6 (nets43 gcA netA revA netB rfl rfl rfl rfl rfl rfl rfl rfl rfl (fun S => rfl) (fun S => rfl) p1A p2A p3A ?_)
 exact z_endrun (env0_ok.tab TabOk.nil (pure := [])) 80 (fi := ⟨80, ic43, [.t 2, .t 3]⟩) (by kernel_rfl)
def tab43 : Tab := [(43, [([.agg gcA], .tup [.vs [[.int .i64 0], [.int .i64 0], [.int .i64 0], [.int .i64 1], [.int .i64 2]], .int .i64 3])])]
theorem tab43_ok : TabOk Try.prog tab43 := by
 intro x hx y hy
 unfold tab43 at hx
 obtain rfl := List.mem_singleton.1 hx
 obtain rfl := List.mem_singleton.1 hy
 exact comps43
def tab22 : Tab := [(22, [([.agg [.int .i64 5, .vs [[.int .i64 0, .int .i64 2], [.int .i64 2, .int .i64 1], [.int .i64 1, .int .i64 0], [.int .i64 2, .int .i64 3], [.int .i64 0, .int .i64 3]]], .int .i64 1], .tup [.vs [[.int .i64 (1)], [.int .i64 (0)], [.int .i64 (2)], [.int .i64 (2)], [.int .i64 (-1)]], .int .i64 0])])]
theorem tab22_ok : TabOk Try.prog tab22 := TabOk.of_run (env0_ok.tab (tab43_ok.append zev) (pure := [])) (n := 80) (by kernel_rfl)
def tab27 : Tab := [(27, [([.agg [.int .i64 5, .vs [[.int .i64 0, .int .i64 2], [.int .i64 2, .int .i64 1], [.int .i64 1, .int .i64 0], [.int .i64 2, .int .i64 3], [.int .i64 0, .int .i64 3]]], .int .i64 2, .int .i64 0], .tup [.vs [[.int .i64 (2)], [.int .i64 (1)], [.int .i64 (0)]], .int .i64 0])])]
theorem tab27_ok : TabOk Try.prog tab27 := TabOk.of_run (env0_ok.tab (tab43_ok.append zev) (pure := [])) (n := 80) (by kernel_rfl)
def tab21 : Tab := [(21, [([.agg [.int .i64 5, .vs [[.int .i64 0, .int .i64 2], [.int .i64 2, .int .i64 1], [.int .i64 1, .int .i64 0], [.int .i64 2, .int .i64 3], [.int .i64 0, .int .i64 3]]]], .tup [.vs [[.int .i64 (0)], [.int .i64 (2)], [.int .i64 (1)]], .int .i64 0])])]
theorem tab21_ok : TabOk Try.prog tab21 := TabOk.of_run (env0_ok.tab (tab43_ok.append zev) (pure := [])) (n := 80) (by kernel_rfl)
def tab13 : Tab := [(13, [([.agg [.int .i64 5, .vs [[.int .i64 0, .int .i64 2], [.int .i64 2, .int .i64 1], [.int .i64 1, .int .i64 0], [.int .i64 2, .int .i64 3], [.int .i64 0, .int .i64 3]]]], .tup [.vs [[.vs [[.int .i64 (0)], [.int .i64 (1)], [.int .i64 (2)]]], [.vs [[.int .i64 (3)]]], [.vs [[.int .i64 (4)]]]], .int .i64 0])])]
theorem tab13_ok : TabOk Try.prog tab13 := TabOk.of_run (env0_ok.tab (tab43_ok.append zev) (pure := [])) (n := 80) (by kernel_rfl)
def tab15 : Tab := [(15, [([.agg [.int .i64 5, .vs [[.int .i64 0, .int .i64 2], [.int .i64 2, .int .i64 1], [.int .i64 1, .int .i64 0], [.int .i64 2, .int .i64 3], [.int .i64 0, .int .i64 3]]]], .tup [.agg [.int .i64 3, .vs [[.int .i64 0, .int .i64 1]]], .vs [[.int .i64 (0)], [.int .i64 (0)], [.int .i64 (0)], [.int .i64 (1)], [.int .i64 (2)]], .int .i64 0])])]
theorem tab15_ok : TabOk Try.prog tab15 := TabOk.of_run (env0_ok.tab tab43_ok (pure := [])) (n := 80) (by kernel_rfl)
def tab23 : Tab := [(23, [([.agg [.int .i64 4, .vs [[.int .i64 3, .int .i64 1], [.int .i64 1, .int .i64 0], [.int .i64 3, .int .i64 0], [.int .i64 2, .int .i64 0]]]], .tup [.vs [[.int .i64 (2)], [.int .i64 (3)], [.int .i64 (1)], [.int .i64 (0)]], .int .i64 0])])]
theorem tab23_ok : TabOk Try.prog tab23 := TabOk.of_run (env0_ok.tab (tab43_ok.append zev) (pure := [])) (n := 80) (by kernel_rfl)
def tab41 : Tab := [(41, [([], .agg [.int .i64 5, .vs [[.int .i64 0, .int .i64 2], [.int .i64 2, .int .i64 1], [.int .i64 1, .int .i64 0], [.int .i64 2, .int .i64 3], [.int .i64 0, .int .i64 3]]])])]
theorem tab41_ok : TabOk Try.prog tab41 := TabOk.of_run (env0_ok.tab (tab43_ok.append zev) (pure := [])) (n := 80) (by kernel_rfl)
def tabB : Tab := tab41 ++ (tab23 ++ (tab15 ++ (tab13 ++ (tab21 ++ (tab27 ++ tab22)))))
theorem tabB_ok : TabOk Try.prog tabB := tab41_ok.append (tab23_ok.append (tab15_ok.append (tab13_ok.append (tab21_ok.append (tab27_ok.append tab22_ok)))))
def tabA : Tab := [
 (12, [
  ([], .bool true)])]
theorem tabA_ok : TabOk Try.prog tabA := TabOk.of_run (env0_ok.tab tabB_ok (pure := [])) (n := 80) (by kernel_rfl)
theorem zhk : PF Try.prog 12 [] (.bool true) := tabA_ok _ (List.mem_cons_self ..) _ (List.mem_cons_self ..)
end Go.Proofs.Ytoagikifehmlpaa
namespace Go.Proofs.Ytoagikifehmlpaa
open Go Go.Am
-- slices.Contains[[]int,int]
-- slices.Index[[]pneumatic/api.Edge,pneumatic/api.Edge]
-- slices.Contains[[]pneumatic/api.Edge,pneumatic/api.Edge]
-- pneumatic/pneumaticlaw10.right
def ic20 : IC := .seq (.region [⟨(some 1), .box (.t 0), none⟩,
  ⟨(some 2), .mov (.c (.bool false)), none⟩] none)
 (.seq (.region [⟨(some 3), .faddr 0 (.t 1), none⟩,
  ⟨(some 4), .load none (.t 3), none⟩,
  ⟨(some 5), .bin .leq (.t 4) (.c (.int .i64 12)), none⟩,
  ⟨(some 6), .mov (.t 5), none⟩,
  ⟨(some 7), .faddr 1 (.t 1), some (6, true)⟩,
  ⟨(some 8), .load none (.t 7), some (6, true)⟩,
  ⟨(some 9), .len false (.t 8), some (6, true)⟩,
  ⟨(some 10), .bin .leq (.t 9) (.c (.int .i64 30)), some (6, true)⟩,
  ⟨(some 11), .pick (.t 6) (.t 10) (.c (.bool false)), none⟩,
  ⟨(some 12), .mov (.t 11), none⟩,
  ⟨(some 13), .load (some 2) (.t 1), some (12, true)⟩,
  ⟨(some 14), .call (.c (.fn 35 [] [])) [(.t 13)], some (12, true)⟩,
  ⟨(some 15), .bin .eql (.t 14) (.c (.int .i64 0)), some (12, true)⟩,
  ⟨(some 16), .pick (.t 12) (.t 15) (.c (.bool false)), none⟩,
  ⟨(some 2), .mov (.t 16), none⟩] none)
 (.ret))
theorem fn20 : env0.fn 20 = some ⟨17, ic20, [.t 2]⟩ := by kernel_rfl
def rgtB (n : Int) (es : List (Int × Int)) : Bool := decide (n ≤ 12) && decide (es.length ≤ 30) && (zcj n es == 0)
set_option maxHeartbeats 1000000 in
theorem right20 (n : Int) (es : List (Int × Int)) : PF Try.prog 20 [cG n es] (.bool (rgtB n es)) := by
 have p35 := zne n es
 have hcl := zbj es
 refine zb7 env0_ok fn20 [(0, .agg [.int .i64 n, .vs (cE es)])] (by show 1 ≤ 17; decide) rfl fun w0 N0 => ?_
 unfold ic20 rgtB
 refine za6 (za0 rfl (zdh rfl rfl (za2 rfl (za3 (za1 ?_)))))
 refine zba [] [(0, 0, [.int .i64 n, .vs (cE es)])] [(1, .vptr [.int .i64 n, .vs (cE es)])] rfl (.cons rfl rfl .nil) .nil (.cons rfl (.fptr rfl rfl) .nil) ?_
 repeat (first | refine za6 ?_ | refine za0 rfl ?_ | refine zaf rfl rfl ?_ | refine zae rfl rfl rfl ?_)
 refine zao rfl rfl rfl (fun h => ?_) fun h => ?_
 ·rw [show decide (n ≤ 12) = true from h, Bool.true_and]
  repeat (first | refine zck rfl ?_ | refine za2 rfl ?_ | refine zaf rfl rfl ?_ | refine zae rfl rfl rfl ?_ | refine zbh rfl rfl ?_)
  refine zao rfl rfl rfl (fun h => ?_) fun h => ?_
  ·rw [show decide (es.length ≤ 30) = true from decide_eq_true (by have h : (((cE es).length : Nat) : Int) ≤ 30 := of_decide_eq_true h; omega), Bool.true_and]
   repeat (first | refine zck rfl ?_ | refine za2 rfl ?_ | refine zap rfl rfl rfl rfl ?_ | refine zat rfl rfl ?_)
   refine zau rfl rfl p35 (fun h => Bool.noConfusion (show false = true from h)) ?_
   repeat (first | refine zck rfl ?_)
   refine zao rfl rfl rfl (fun h => ?_) fun h => ?_
   ·rw [show (zcj n es == 0) = true from h]
    repeat (first | refine za3 ?_ | refine za1 ?_ | refine zax ?_ | refine za2 rfl ?_ | refine zat rfl rfl ?_)
    exact zav ⟨.inr rfl, _, rfl, rfl⟩
   ·rw [show (zcj n es == 0) = false from h]
    repeat (first | refine za3 ?_ | refine za1 ?_ | refine zax ?_ | refine za2 rfl ?_ | refine zat rfl rfl ?_)
    exact zav ⟨.inr rfl, _, rfl, rfl⟩
  ·rw [show decide (es.length ≤ 30) = false from decide_eq_false (by have h : ¬ (((cE es).length : Nat) : Int) ≤ 30 := of_decide_eq_false h; omega), Bool.false_and]
   repeat (first | refine za3 ?_ | refine za1 ?_ | refine zax ?_ | refine zj7 rfl rfl ?_ | refine za2 rfl ?_ | refine zat rfl rfl ?_ | refine zas rfl rfl ?_)
   exact zav ⟨.inr rfl, _, rfl, rfl⟩
 ·rw [show decide (n ≤ 12) = false from h, Bool.false_and, Bool.false_and]
  repeat (first | refine za3 ?_ | refine za1 ?_ | refine zax ?_ | refine zj7 rfl rfl ?_ | refine za2 rfl ?_ | refine zas rfl rfl ?_)
  exact zav ⟨.inr rfl, _, rfl, rfl⟩
theorem rgt_ok {n : Int} {es : List (Int × Int)} (h : rgtB n es = true) : ∃ (m : Nat) (E : List (Nat × Nat)), n = (m : Int) ∧ es = zaj E ∧ m ≤ 12 ∧ E.length ≤ 30 ∧ zcj (m : Nat) (zaj E) = 0 ∧ ∀ u v, (u, v) ∈ E → u < m ∧ v < m := by
 unfold rgtB at h
 rw [Bool.and_eq_true, Bool.and_eq_true, decide_eq_true_eq, decide_eq_true_eq, beq_iff_eq] at h
 obtain ⟨⟨h1, h2⟩, h3⟩ := h
 obtain ⟨m, E, rfl, rfl, hm, hl, hE, hb⟩ := zf7 h3
 exact ⟨m, E, rfl, rfl, by omega, by omega, h3, hb⟩
end Go.Proofs.Ytoagikifehmlpaa
namespace Go.Proofs.Ytoagikifehmlpaa
open Go Go.Am
theorem gI_at {o : List Int} {i : Nat} (h : i < o.length) : o[i] = gI o i := by
 unfold gI
 rw [List.getD_eq_getElem?_getD, List.getElem?_eq_getElem h]
 rfl
def b19_0 : IC := .seq (.seq (.region [⟨(some 11), .mov (.t 5), none⟩,
  ⟨(some 12), .mov (.t 0), none⟩,
  ⟨(some 13), .len false (.t 12), none⟩,
  ⟨(some 14), .bin .lss (.t 11) (.t 13), none⟩] none)
 (.cond (.t 14) (.skip)
 (.exit 0)))
 (.seq (.block 1 (.seq (.region [⟨(some 17), .mov (.t 0), none⟩,
  ⟨(some 18), .mov (.t 5), none⟩,
  ⟨(some 19), .idxs 1 (.t 17) (.t 18), none⟩,
  ⟨(some 20), .load none (.t 19), none⟩,
  ⟨(some 21), .mov (.t 1), none⟩,
  ⟨(some 22), .mov (.t 5), none⟩,
  ⟨(some 23), .idxs 1 (.t 21) (.t 22), none⟩,
  ⟨(some 24), .load none (.t 23), none⟩,
  ⟨(some 25), .bin .neq (.t 20) (.t 24), none⟩] (some [[], [], [0, 1], [2], [], [], [4, 5], [6], [3, 7]]))
 (.cond (.t 25) (.seq (.region [⟨(some 4), .mov (.c (.bool false)), none⟩] none)
 (.ret))
 (.skip))))
 (.region [⟨(some 15), .mov (.t 5), none⟩,
  ⟨(some 16), .bin .add (.t 15) (.c (.int .i64 1)), none⟩,
  ⟨(some 5), .mov (.t 16), none⟩] none))
-- pneumatic/pneumaticref10.SameInts
def ic19 : IC := .seq (.region [⟨(some 4), .mov (.c (.bool false)), none⟩] none)
 (.seq (.seq (.region [⟨(some 6), .mov (.t 0), none⟩,
  ⟨(some 7), .len false (.t 6), none⟩,
  ⟨(some 8), .mov (.t 1), none⟩,
  ⟨(some 9), .len false (.t 8), none⟩,
  ⟨(some 10), .bin .neq (.t 7) (.t 9), none⟩] none)
 (.cond (.t 10) (.seq (.region [⟨(some 4), .mov (.c (.bool false)), none⟩] none)
 (.ret))
 (.skip)))
 (.seq (.seq (.region [⟨(some 5), .mov (.c (.int .i64 0)), none⟩] none)
 (.block 0 (.loop b19_0)))
 (.seq (.region [⟨(some 4), .mov (.c (.bool true)), none⟩] none)
 (.ret))))
theorem fn19 : env0.fn 19 = some ⟨26, ic19, [.t 4]⟩ := by kernel_rfl
set_option maxRecDepth 100000 in
theorem same19 (a : List Int) (ha : a.length ≤ 1000000) : PF Try.prog 19 [vsI a, vsI a] (.bool true) := by
 have hva : (a.map fun z => ([.int .i64 z] : List AV)).length = a.length := List.length_map ..
 refine zb7 env0_ok fn19 [(0, vsI a), (1, vsI a)] (by show 2 ≤ 26; decide) rfl fun w0 N0 => ?_
 unfold ic19
 repeat (first | refine za6 ?_ | refine za0 rfl ?_ | refine za3 ?_ | refine za1 ?_ | refine za2 rfl ?_ | refine zbh rfl rfl ?_)
 refine zcv rfl rfl (by show some (AV.bool (!(_ == _))) = _; simp) ?_
 repeat (first | refine za6 ?_ | refine za0 rfl ?_ | refine za3 ?_ | refine za1 ?_ | refine zab ?_ | refine zad ?_ | refine zbp rfl ?_ | refine za2 rfl ?_)
 refine zb6 (fun mm S => ∃ i, mm = a.length - i ∧ i ≤ a.length ∧ S = st 26 [(0, vsI a), (1, vsI a), (5, .int .i64 (i : Nat))] [] 0 0) a.length
  (za7 (.cons rfl (.cons rfl (.cons rfl .nil)))) ⟨0, rfl, Nat.zero_le _, rfl⟩ ?_
 rintro mm S ⟨i, rfl, hi, rfl⟩
 unfold b19_0 vsI
 repeat (first | refine za6 ?_ | refine za0 rfl ?_ | refine za2 rfl ?_ | refine zbh rfl rfl ?_)
 refine zao rfl rfl (by show some (AV.bool (decide (((i : Nat) : Int) < ((a.map fun z => ([.int .i64 z] : List AV)).length : Nat)))) = _; rw [hva]) (fun h3 => ?_) fun h3 => ?_
 ·have hlt : i < a.length := Int.ofNat_lt.1 (of_decide_eq_true h3)
  have hg := zew hlt
  repeat (first | refine za6 ?_ | refine za3 ?_ | refine za1 ?_ | refine zab ?_ | refine zad ?_ | refine zc5 rfl ?_ | refine za2 rfl ?_ | refine zaf rfl rfl ?_ | refine zgc env0_ok rfl rfl rfl ?_ | refine zb0 rfl rfl (by omega) (by assumption) rfl ?_)
  refine zcv rfl rfl (by show some (AV.bool (!(a[i] == a[i]))) = _; simp) ?_
  repeat (first | refine za0 rfl ?_ | refine za3 ?_ | refine za1 ?_ | refine zb2 ?_ | refine zad ?_ | refine zbp rfl ?_ | refine za2 rfl ?_ | refine zay (op := .add) rfl rfl rfl ?_)
  rw [zag i (by omega)]
  exact zah (show a.length - (i + 1) < a.length - i by omega) (za7 (.cons rfl (.cons rfl (.cons rfl .nil)))) ⟨i + 1, rfl, hlt, rfl⟩
 ·repeat (first | refine za3 ?_ | refine za1 ?_ | refine zbp rfl ?_ | refine zb4 ?_ | refine zac ?_)
  refine zbx ?_
  repeat (first | refine za6 ?_ | refine za0 rfl ?_ | refine za3 ?_ | refine za1 ?_ | refine zax ?_ | refine zb3 ?_ | refine za2 rfl ?_)
  exact zav ⟨.inr rfl, _, rfl, rfl⟩
end Go.Proofs.Ytoagikifehmlpaa
namespace Go.Proofs.Ytoagikifehmlpaa
open Go Go.Am
def swE (es : List (Int × Int)) : List (Int × Int) := es.map fun e => (e.2, e.1)
theorem swE_succ {es : List (Int × Int)} {i : Nat} (h : i < es.length) : swE (es.take (i + 1)) = swE (es.take i) ++ [(es[i].2, es[i].1)] := by
 unfold swE
 rw [List.take_add_one, List.getElem?_eq_getElem h, List.map_append]
 rfl
theorem swE_len (es : List (Int × Int)) (i : Nat) : (swE (es.take i)).length ≤ i := by
 unfold swE
 rw [List.length_map, List.length_take]
 omega
def Rv (q : List (Int × Int)) (w : AV) (hp : List (Nat × Nat × AObj)) (nx : Nat) : Prop :=
 (q = [] ∧ w = .nils) ∨ ∃ id sp, w = .ms id sp 2 0 q.length none ∧ Am.look id hp = some (sp, .cells (cE q).flatten) ∧ 1 < id ∧ id < nx
structure Rq (n : Int) (q : List (Int × Int)) (v w : AV) (hp : List (Nat × Nat × AObj)) (nx : Nat) : Prop where
 res : Am.look 0 hp = some (0, .cells [.int .i64 0, .nils])
 out : Am.look 1 hp = some (1, .cells [.int .i64 n, v])
 lst : Rv q w hp nx
 nx1 : 1 < nx
section
variable {n : Int} {q : List (Int × Int)} {v w : AV} {hp : List (Nat × Nat × AObj)} {nx : Nat}
theorem Rq.fresh (h : Rq n q v w hp nx) (ck : Nat) (x : AObj) : Rq n q v w ((nx, ck, x) :: hp) (nx + 1) := by
 have h1 := h.nx1
 refine ⟨by rw [za9, if_neg (by omega)]; exact h.res, by rw [za9, if_neg (by omega)]; exact h.out, ?_, by omega⟩
 rcases h.lst with h2 | ⟨id, sp, e, hl, a, b⟩
 ·exact .inl h2
 ·exact .inr ⟨id, sp, e, by rw [za9, if_neg (by omega)]; exact hl, a, by omega⟩
theorem Rq.store (h : Rq n q v w hp nx) (x : AV) : Rq n q x w (zbo 1 (1, .cells [.int .i64 n, x]) hp) nx := by
 refine ⟨by rw [za4, if_neg (by decide)]; exact h.res, by rw [za4, if_pos rfl], ?_, h.nx1⟩
 rcases h.lst with h2 | ⟨id, sp, e, hl, a, b⟩
 ·exact .inl h2
 ·exact .inr ⟨id, sp, e, by rw [za4, if_neg (by omega)]; exact hl, a, b⟩
theorem Rq.fresh2 (h : Rq n q v w hp nx) (ck : Nat) (x : AObj) (y : Nat × AObj) : Rq n q v w (zbo nx y ((nx, ck, x) :: hp)) (nx + 1) := by
 have h0 := h.nx1
 have h1 := h.fresh ck x
 refine ⟨by rw [za4, if_neg (by omega)]; exact h1.res, by rw [za4, if_neg (by omega)]; exact h1.out, ?_, h1.nx1⟩
 rcases h.lst with h2 | ⟨id, sp, e, hl, a, b⟩
 ·exact .inl h2
 ·exact .inr ⟨id, sp, e, by rw [za4, if_neg (by omega), za9, if_neg (by omega)]; exact hl, a, by omega⟩
theorem cE_snoc (q : List (Int × Int)) (x : Int × Int) : (cE q).flatten ++ [[AV.int .i64 x.1, AV.int .i64 x.2]].flatten = (cE (q ++ [x])).flatten := by
 unfold cE
 rw [List.map_append, List.flatten_append]
 rfl
theorem znb (q : List (Int × Int)) : (cE q).flatten.length = q.length * 2 := by
 induction q with
 | nil => rfl
 | cons e q ih =>
  show ([AV.int .i64 e.1, AV.int .i64 e.2] ++ (cE q).flatten).length = _
  rw [List.length_append, ih]
  show 2 + q.length * 2 = (q.length + 1) * 2
  omega
theorem Rq.app_new (h : Rq n [] v .nils hp nx) (ck : Nat) (x : Int × Int) : Rq n [x] v (.ms nx ck 2 0 1 none) ((nx, ck, .cells [.int .i64 x.1, .int .i64 x.2]) :: hp) (nx + 1) := by
 have h1 := h.nx1
 exact ⟨by rw [za9, if_neg (by omega)]; exact h.res, by rw [za9, if_neg (by omega)]; exact h.out, .inr ⟨nx, ck, rfl, zbe, h1, Nat.lt_succ_self _⟩, by omega⟩
theorem Rq.app_old {id sp len : Nat} (h : Rq n q v (.ms id sp 2 0 q.length none) hp nx) (hid : 1 < id) (hn : id < nx) (ck : Nat) (x : Int × Int) : Rq n (q ++ [x]) v (.ms id ck 2 0 (q.length + 1) none) (zbo id (ck, .cells (cE (q ++ [x])).flatten) hp) nx :=
 ⟨by rw [za4, if_neg (by omega)]; exact h.res, by rw [za4, if_neg (by omega)]; exact h.out, .inr ⟨id, ck, by rw [List.length_append]; rfl, by rw [za4, if_pos rfl], hid, hn⟩, h.nx1⟩
theorem zpr {w0 : World} {N0 nn d ck : Nat} {k : List Fr} {Q : Exit → AS → Prop} {l : List (Nat × AV)} {ios : List Opr} {bytes j sj : Nat} {x : Int × Int} {z : List AV} {s xa : Arg} (hF : Rq n q v w hp nx) (hlen : q.length ≤ 1000000) (hs : zbg s l = some w) (hx : zbg xa l = some (.ms j sj 2 0 1 (some 1))) (hj : Am.look j hp = some (sj, .cells [.int .i64 x.1, .int .i64 x.2])) (hb : bytes ≤ 16777216)
  (go : ∀ w' hp' nx' ck', Rq n (q ++ [x]) v w' hp' nx' → Om Try.prog w0 N0 none (KnP Try.prog w0 N0) ios (st nn ((d, w') :: l) hp' nx' ck') k Q) :
  Om Try.prog w0 N0 none (KnP Try.prog w0 N0) (⟨some d, .append 2 bytes z s xa, none⟩ :: ios) (st nn l hp nx ck) k Q := by
 have hel : ∀ l, (st nn l hp nx ck []).elems 2 (.ms j sj 2 0 1 (some 1)) = some [[.int .i64 x.1, .int .i64 x.2]] := fun l => zdd (xs := [[.int .i64 x.1, .int .i64 x.2]]) (ys := []) hj rfl fun x hx => by obtain rfl := List.mem_singleton.1 hx; rfl
 rcases hF.lst with ⟨rfl, rfl⟩ | ⟨id, sp, rfl, hl, h1, h2⟩
 ·have hi : iop (st nn l hp nx ck) (.append 2 bytes z s xa) = some (.ms nx ck 2 0 1 none, st nn l ((nx, ck, .cells [.int .i64 x.1, .int .i64 x.2]) :: hp) (nx + 1) (ck + 1)) := by
   simp only [iop, zb5, hs, hx, hel]
   unfold zbq
   rw [if_neg (show ¬ [[AV.int .i64 x.1, AV.int .i64 x.2]].length = 0 from Nat.succ_ne_zero 0), if_pos (show [[AV.int .i64 x.1, AV.int .i64 x.2]].flatten.all AV.isCell = true ∧ bytes ≤ 16777216 from ⟨rfl, hb⟩)]
   rfl
  exact zez hi (go _ _ _ _ (hF.app_new ck x)) (fun _ _ _ _ _ _ _ => rfl)
 ·refine zdn [[.int .i64 x.1, .int .i64 x.2]] hs hx (hel _) (fun h => Nat.noConfusion h) rfl hb hl (znb q).symm (by show _ + 1 ≤ _; omega) ?_ (fun _ _ _ _ _ _ _ => rfl)
  refine go _ _ _ _ ?_
  rw [cE_snoc]
  exact hF.app_old (len := 0) h1 h2 ck x
theorem Rv.cell (h : Rv q w hp nx) : w.isCell = true ∧ w.cells? = some [w] := by
 rcases h with ⟨rfl, rfl⟩ | ⟨id, sp, rfl, hl, _, _⟩
 ·exact ⟨rfl, rfl⟩
 ·exact ⟨rfl, rfl⟩
theorem res_agg {S : AS} {a : Nat} {pa x y : AV} (h1 : S.get a = some pa) (d1 : S.deref pa = some [x, y]) : S.res [.cell a (some 2)] = some (.agg [x, y]) := by
 simp [AS.res, AS.resL, zu4, h1, d1]
theorem Rv.view {S : AS} {d : Nat} (h : Rv q w S.heap nx) : S.view (d + 1) w = .vs (cE q) := by
 rcases h with ⟨rfl, rfl⟩ | ⟨id, sp, rfl, hl, _, _⟩
 ·rfl
 ·have e : S.elems 2 (.ms id sp 2 0 q.length none) = some (cE q) := by
   obtain ⟨n, t, hp, nx, ck, mk⟩ := S
   exact zdd (ys := []) (cap := none) (n := n) (nx := nx) (ck := ck) (mk := mk) (l := []) (hp := hp) (by rw [List.append_nil]; exact hl) (zbj q) (fun x hx => by obtain ⟨s, _, rfl⟩ := List.mem_map.1 hx; rfl)
  simp only [AS.view, e]
  congr 1
  unfold cE
  rw [List.map_map]
  apply List.map_congr_left
  intro s _
  cases d <;> rfl
end
def b47_0 : IC := .seq (.region [⟨(some 13), .bin .lss (.t 12) (.t 11), none⟩] none)
 (.seq (.cond (.t 13) (.skip)
 (.exit 0))
 (.seq (.block 1 (.seq (.region [⟨(some 14), .idxs 2 (.t 10) (.t 12), none⟩,
  ⟨(some 15), .load (some 2) (.t 14), none⟩,
  ⟨(some 5), .alloc [.int .i64 0, .int .i64 0], none⟩,
  ⟨none, .store 2 (.t 5) (.t 15), none⟩] none)
 (.region [⟨(some 16), .faddr 1 (.t 3), none⟩,
  ⟨(some 17), .load none (.t 16), none⟩,
  ⟨(some 18), .faddr 1 (.t 5), none⟩,
  ⟨(some 19), .load none (.t 18), none⟩,
  ⟨(some 20), .faddr 0 (.t 5), none⟩,
  ⟨(some 21), .load none (.t 20), none⟩,
  ⟨(some 22), .build [.int .i64 0, .int .i64 0] [(0, 1, (.t 19)), (1, 1, (.t 21))], none⟩,
  ⟨(some 23), .bslice 2 1 [.int .i64 0, .int .i64 0] [(0, 2, (.t 22))], none⟩,
  ⟨(some 24), .append 2 16 [.int .i64 0, .int .i64 0] (.t 17) (.t 23), none⟩,
  ⟨(some 25), .faddr 1 (.t 3), none⟩,
  ⟨none, .store 1 (.t 25) (.t 24), none⟩] none)))
 (.region [⟨(some 26), .bin .add (.t 12) (.c (.int .i64 1)), none⟩,
  ⟨(some 12), .mov (.t 26), none⟩] none)))
-- pneumatic/digraph.reversed
def ic47 : IC := .seq (.region [⟨(some 1), .box (.t 0), none⟩,
  ⟨(some 2), .alloc [.int .i64 0, .nils], none⟩] none)
 (.seq (.region [⟨(some 6), .faddr 0 (.t 1), none⟩,
  ⟨(some 7), .load none (.t 6), none⟩,
  ⟨(some 8), .build [.int .i64 0, .nils] [(0, 1, (.t 7))], none⟩,
  ⟨(some 3), .alloc [.int .i64 0, .nils], none⟩,
  ⟨none, .store 2 (.t 3) (.t 8), none⟩] none)
 (.seq (.seq (.region [⟨(some 9), .faddr 1 (.t 1), none⟩,
  ⟨(some 10), .load none (.t 9), none⟩,
  ⟨(some 11), .len false (.t 10), none⟩,
  ⟨(some 12), .mov (.c (.int .i64 0)), none⟩] none)
 (.block 0 (.loop b47_0)))
 (.seq (.region [⟨(some 27), .load (some 2) (.t 3), none⟩,
  ⟨none, .store 2 (.t 2) (.t 27), none⟩] none)
 (.ret))))
theorem fn47 : env0.fn 47 = some ⟨28, ic47, [.cell 2 (some 2)]⟩ := by kernel_rfl
set_option maxHeartbeats 4000000 in
theorem zjw (n : Int) (es : List (Int × Int)) (he : es.length ≤ 1000000) : PF Try.prog 47 [cG n es] (cG n (swE es)) := by
 have hcl := zbj es
 refine zb7 env0_ok fn47 [(0, .agg [.int .i64 n, .vs (cE es)])] (by show 1 ≤ 28; decide) rfl fun w0 N0 => ?_
 unfold ic47
 refine za6 (za0 rfl (zdh rfl rfl (zbm (za3 (za1 ?_)))))
 refine zba [(some (1, 1), [.int .i64 0, .nils])] [(0, 0, [.int .i64 n, .vs (cE es)])] [(1, .vptr [.int .i64 n, .vs (cE es)]), (2, .mptr 0 0 0)] rfl (.cons rfl rfl .nil) (.cons rfl (.cons (.same rfl) (.cons (.same rfl) .nil)) .nil) (.cons rfl (.fptr rfl rfl) (.cons rfl (.mptr rfl) .nil)) ?_
 repeat (first | refine za6 ?_ | refine za0 rfl ?_ | refine za3 ?_ | refine za1 ?_ | refine zab ?_ | refine za2 rfl ?_ | refine zaf rfl rfl ?_ | refine zbf rfl rfl rfl rfl rfl rfl rfl ?_ | refine zae rfl rfl rfl ?_ | refine zbm ?_ | refine zbh rfl rfl ?_ | refine zdo rfl rfl ?_)
 refine zb6 (fun mm S => ∃ i v hp nx ck, mm = es.length - i ∧ i ≤ es.length ∧ Rq n (swE (es.take i)) v v hp nx ∧ S = st 28 [(2, .mptr 0 0 0), (3, .mptr 1 1 0), (10, .vs (cE es)), (11, .int .i64 ((cE es).length : Nat)), (12, .int .i64 (i : Nat))] hp nx ck) es.length
  (za7 (.cons rfl (.cons rfl (.cons rfl (.cons rfl (.cons rfl .nil)))))) ⟨0, .nils, _, _, _, rfl, Nat.zero_le _, ⟨rfl, rfl, .inl ⟨rfl, rfl⟩, by decide⟩, rfl⟩ ?_
 rintro mm S ⟨i, v, hp, nx, ck, rfl, hi, hF, rfl⟩
 have hql := swE_len es i
 unfold b47_0
 repeat (first | refine za6 ?_ | refine za0 rfl ?_)
 refine zao rfl rfl rfl (fun h3 => ?_) fun h3 => ?_
 ·have hlt : i < es.length := by
   have h4 : ((i : Nat) : Int) < (((cE es).length : Nat) : Int) := of_decide_eq_true h3
   omega
  have w1 : IntKind.wrap .i64 (((i : Nat) : Int) + 1) = ((i + 1 : Nat) : Int) := zag i (by omega)
  have hg := zlw hlt
  have hs := swE_succ hlt
  generalize es[i].1 = a at *
  generalize es[i].2 = b at *
  repeat (first | refine za6 ?_ | refine za0 rfl ?_ | refine za3 ?_ | refine za1 ?_ | refine zab ?_ | refine zad ?_ | refine zc5 rfl ?_ | refine zap rfl rfl rfl rfl ?_ | refine zbm ?_ | refine zb0 rfl rfl (by omega) (by assumption) rfl ?_)
  refine zbf (id := nx) (sp := ck) (off := 0) rfl rfl rfl rfl zbe rfl rfl ?_
  have hF1 := hF.fresh2 ck (.cells [.int .i64 0, .int .i64 0]) (ck, .cells [.int .i64 a, .int .i64 b])
  have k5 : Am.look nx (zbo nx (ck, AObj.cells [.int .i64 a, .int .i64 b]) ((nx, ck, AObj.cells [.int .i64 0, .int .i64 0]) :: hp)) = some (ck, .cells [.int .i64 a, .int .i64 b]) := by
   rw [za4, if_pos rfl]
  repeat (first | refine za0 rfl ?_ | refine za3 ?_ | refine za1 ?_ | refine zaw rfl ?_)
  refine zak (id := 1) (sp := 1) (off := 0 + 1) rfl hF1.out hF1.nx1 rfl ?_
  repeat (first | refine zaw rfl ?_)
  refine zak (id := nx) (sp := ck) (off := 0 + 1) rfl k5 (Nat.lt_succ_self _) rfl ?_
  repeat (first | refine zaw rfl ?_)
  refine zak (id := nx) (sp := ck) (off := 0) rfl k5 (Nat.lt_succ_self _) rfl ?_
  repeat (first | refine zdo rfl rfl ?_ | refine zch rfl rfl ?_)
  refine zpr (x := (b, a)) (hF1.fresh _ (.cells [.int .i64 b, .int .i64 a])) (by omega) rfl rfl zbe (by decide) fun w' hp' nx' ck' hF2 => ?_
  repeat (first | refine zaw rfl ?_)
  refine zbd (id := 1) (sp := 1) (off := 0 + 1) rfl rfl hF2.lst.cell.2 hF2.out (by simp) hF2.lst.cell.1 ?_
  repeat (first | refine za0 rfl ?_ | refine za3 ?_ | refine za1 ?_ | refine zb2 ?_ | refine za2 rfl ?_ | refine zay (op := .add) rfl rfl rfl ?_)
  rw [w1]
  exact zah (show es.length - (i + 1) < es.length - i by omega) (za7 (.cons rfl (.cons rfl (.cons rfl (.cons rfl (.cons rfl .nil)))))) ⟨i + 1, w', _, _, _, rfl, hlt, by rw [hs]; exact hF2.store w', rfl⟩
 ·have hie : i = es.length := by
   have h4 : ¬ ((i : Nat) : Int) < (((cE es).length : Nat) : Int) := of_decide_eq_false h3
   omega
  subst hie
  rw [List.take_length] at hF
  repeat (first | refine za6 ?_ | refine za3 ?_ | refine za1 ?_ | refine zbp rfl ?_ | refine zb4 ?_ | refine zac ?_)
  refine zbx ?_
  repeat (first | refine za6 ?_ | refine za0 rfl ?_ | refine za1 ?_ | refine zb3 ?_)
  refine zl4 (id := 1) (sp := 1) (off := 0) rfl hF.out hF.nx1 rfl rfl ?_
  refine zbf (id := 0) (sp := 0) (off := 0) (v := .agg [.int .i64 n, v]) (vs := [.int .i64 n, v]) rfl rfl rfl rfl hF.res rfl (by rw [List.all_cons, List.all_cons, hF.lst.cell.1]; rfl) ?_
  repeat (first | refine za3 ?_ | refine za1 ?_ | refine zax ?_)
  refine zav ⟨.inr rfl, _, res_agg ((zf9 2).trans rfl) (zke (sp := 0) (cs := [.int .i64 n, v]) (by show Am.look 0 (zbo 0 _ hp) = _; rw [za4, if_pos rfl]; rfl) (show 0 < nx by have := hF.nx1; omega) rfl), ?_⟩
  have hv : Rv (swE es) v (zbo 0 (0, .cells [.int .i64 n, v]) hp) nx := by
   rcases hF.lst with h2 | ⟨id, sp, e, hl, a, b⟩
   ·exact .inl h2
   ·exact .inr ⟨id, sp, e, by rw [za4, if_neg (by omega)]; exact hl, a, b⟩
  exact congrArg AV.agg (zfi rfl hv.view)
end Go.Proofs.Ytoagikifehmlpaa
