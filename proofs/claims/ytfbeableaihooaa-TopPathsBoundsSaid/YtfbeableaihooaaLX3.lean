/-
  THE BOUNDS OF A SQUARE: its rows, one behind the other.; THE BOUNDS OF A SQUARE.; slices.Repeat of -1.; A QUEUE: a list of its own that is cut at its begin and grows at its end; steps on it.; THE DISTANCES FROM A VERTEX: far walked.; THE REFERENCE's CHECKS OF GRAPHS; small graphs.; THE LIBRARY's CONTRACTS of sort.Ints and slices.Compact, laid at this program; the same as told calls.; THE NEIGHBOUR
-/
import Derived.Test.YtfbeableaihooaaLX2
import Derived.Shelf.Sort.Plain
import Derived.Shelf.Slices.CompactI
namespace Go.Proofs.Ytfbeableaihooaa
open Go Go.Am
structure Jm (m : Nat) (nz : Nat → Bool) (cv : Nat → AV) (C : Nat → List Int) (ids sps : Nat → Nat) (hp : List (Nat × Nat × AObj)) (nx : Nat) : Prop where
 top : Am.look 0 hp = some (0, .cells ((List.range m).map cv))
 cell : ∀ v, v < m → nz v = true → Am.look (ids v) hp = some (sps v, .cells ((C v).map (AV.int .i64)))
 pos : ∀ v, v < m → nz v = true → 2 < ids v ∧ ids v < nx
 inj : ∀ u v, u < m → v < m → nz u = true → nz v = true → ids u = ids v → u = v
 nx0 : 2 < nx
section
variable {m : Nat} {nz : Nat → Bool} {cv : Nat → AV} {C : Nat → List Int} {ids sps : Nat → Nat} {hp : List (Nat × Nat × AObj)} {nx : Nat}
theorem Jm.fresh (h : Jm m nz cv C ids sps hp nx) (ck : Nat) (o : AObj) : Jm m nz cv C ids sps ((nx, ck, o) :: hp) (nx + 1) :=
 ⟨by rw [za2, if_neg (by have := h.nx0; omega)]; exact h.top, fun v hv hz => by rw [za2, if_neg (by have := h.pos v hv hz; omega)]; exact h.cell v hv hz,
  fun v hv hz => by have := h.pos v hv hz; omega, h.inj, by have := h.nx0; omega⟩
theorem Jm.junk (h : Jm m nz cv C ids sps hp nx) {j : Nat} (h0 : j ≠ 0) (hj : ∀ v, v < m → nz v = true → ids v ≠ j) (x : Nat × AObj) : Jm m nz cv C ids sps (zbb j x hp) nx :=
 ⟨by rw [za4, if_neg h0]; exact h.top, fun v hv hz => by rw [za4, if_neg fun e => hj v hv hz e.symm]; exact h.cell v hv hz, h.pos, h.inj, h.nx0⟩
theorem Jm.block (h : Jm m nz cv C ids sps hp nx) {a : Nat} (ha : a < m) (hz : nz a = true) (sp : Nat) (D : List Int) : Jm m nz cv (upd C a D) ids (upd sps a sp) (zbb (ids a) (sp, .cells (D.map (AV.int .i64))) hp) nx := by
 refine ⟨by rw [za4, if_neg (by have := h.pos a ha hz; omega)]; exact h.top, fun v hv hzv => ?_, h.pos, h.inj, h.nx0⟩
 rw [za4]
 by_cases e : v = a
 ·subst e
  rw [if_pos rfl, zac, zac]
 ·rw [if_neg fun e2 => e (h.inj v a hv ha hzv hz e2.symm), za6 _ _ e, za6 _ _ e]
  exact h.cell v hv hzv
theorem Jm.cset (h : Jm m nz cv C ids sps hp nx) (a : Nat) (x : AV) : Jm m nz (upd cv a x) C ids sps (zbb 0 (0, .cells (((List.range m).map cv).set a x)) hp) nx :=
 ⟨by rw [za4, if_pos rfl, map_set], fun v hv hz => by rw [za4, if_neg (by have := h.pos v hv hz; omega)]; exact h.cell v hv hz, h.pos, h.inj, h.nx0⟩
theorem Jm.add (h : Jm m nz cv C ids sps hp nx) (a ck : Nat) (D : List Int) : Jm m (upd nz a true) cv (upd C a D) (upd ids a nx) (upd sps a ck) ((nx, ck, .cells (D.map (AV.int .i64))) :: hp) (nx + 1) := by
 refine ⟨by rw [za2, if_neg (by have := h.nx0; omega)]; exact h.top, fun v hv hz => ?_, fun v hv hz => ?_, fun u v hu hv hzu hzv e => ?_, by have := h.nx0; omega⟩
 ·by_cases e : v = a
  ·subst e
   rw [zac, zac, zac, za2, if_pos rfl]
  ·rw [za6 _ _ e] at hz
   rw [za6 _ _ e, za6 _ _ e, za6 _ _ e, za2, if_neg (by have := h.pos v hv hz; omega)]
   exact h.cell v hv hz
 ·by_cases e : v = a
  ·subst e
   rw [zac]
   have := h.nx0
   omega
  ·rw [za6 _ _ e] at hz ⊢
   have := h.pos v hv hz
   omega
 ·by_cases e1 : u = a
  ·by_cases e2 : v = a
   ·rw [e1, e2]
   ·rw [za6 _ _ e2] at hzv
    subst e1
    rw [zac, za6 _ _ e2] at e
    have := h.pos v hv hzv
    omega
  ·rw [za6 _ _ e1] at hzu
   by_cases e2 : v = a
   ·subst e2
    rw [zac, za6 _ _ e1] at e
    have := h.pos u hu hzu
    omega
   ·rw [za6 _ _ e2] at hzv
    rw [za6 _ _ e1, za6 _ _ e2] at e
    exact h.inj u v hu hv hzu hzv e
theorem Jm.get (h : Jm m nz cv C ids sps hp nx) {a : Nat} (ha : a < m) : ((List.range m).map cv)[a]? = some (cv a) := by
 rw [y0a, y1a ha]
 rfl
theorem Jm.fzl (h : Jm m nz cv C ids sps hp nx) {v : Nat} (hv : v < m) (hz : nz v = true) : Am.fzl (ids v) (sps v) (fzJ m nz C ids sps) = some ((C v).map (AV.int .i64)) := by
 refine zou (y0k.2 ⟨v, y0t.2 ⟨y0j.2 hv, hz⟩, rfl⟩) fun x hx e => ?_
 obtain ⟨u, hu, rfl⟩ := y0k.1 hx
 obtain ⟨h1, h2⟩ := y0t.1 hu
 rw [h.inj u v (y0j.1 h1) hv h2 hz e]
theorem Jm.rnF (h : Jm m nz cv C ids sps hp nx) : RnF hp (fzJ m nz C ids sps) := zph fun x hx => by
 obtain ⟨u, hu, rfl⟩ := y0k.1 hx
 obtain ⟨h1, h2⟩ := y0t.1 hu
 exact ⟨h.cell u (y0j.1 h1) h2, zby _⟩
end
-- (*pneumatic/bounds.square).bounds$1
def ic74 : IC := .region [oF 6 1 2,
  oN 7 6,
  oT 8 0,
  oF 9 1 2,
  oN 10 9,
  oT 11 0,
  oM 12 (.idxs 1 (.t 10) (.t 11)),
  oN 13 12,
  oN 14 3,
  oT 15 0,
  oT 16 1,
  oM 17 (.nilchk (.t 14)),
  oF 18 1 17,
  oM 19 (.idxarr 13 13 (.t 18) (.t 15)),
  oM 20 (.idxarr 13 1 (.t 19) (.t 16)),
  oN 21 20,
  oM 22 (.bslice 1 1 [.int .i64 0] [(0, 1, (.t 21))]),
  oM 23 (.append 1 8 [.int .i64 0] (.t 13) (.t 22)),
  oM 24 (.idxs 1 (.t 7) (.t 8)),
  ⟨none, .store 1 (.t 24) (.t 23), none⟩] (some [[], [0], [], [], [3], [], [4, 5], [6], [], [], [], [8], [11], [12, 9], [13, 10], [14], [15], [7, 16], [1, 2, 0, 1, 2, 3, 4, 5, 6, 7, 8, 9, 10, 11, 12, 13, 14, 15, 16, 17], [18, 17, 17, 0, 1, 2, 3, 4, 5, 6, 7, 8, 9, 10, 11, 12, 13, 14, 15, 16, 17]])
theorem fn74 : env0.fn 74 = some ⟨25, ic74, []⟩ := by kernel_rfl
def zqi (K i j v : Nat) : Nat := if v < i then K else if v = i then j else 0
structure BoI (K : Nat) (G : Nat → Nat → Int) (i j : Nat) (H : HS) : Prop where
 ok : ∃ nz cv C ids sps, Jm K nz cv C ids sps H.heap H.next ∧ (∀ v, v < K → nz v = decide (v < i ∨ (v = i ∧ 0 < j))) ∧ (∀ v, v < K → cv v = if nz v = true then .ms (ids v) (sps v) 1 0 (zqi K i j v) none else .nils) ∧ (∀ v, v < K → nz v = true → C v = (zd2 G K v).take (zqi K i j v))
 h1 : Am.look 1 H.heap = some (0, .cells [.int .i64 0, .nils])
 h2 : Am.look 2 H.heap = some (0, .cells [.int .i64 ((K : Nat) - 1), .ms 0 0 1 0 K (some K)])
theorem BoI.row {K : Nat} {G : Nat → Nat → Int} {i : Nat} {H : HS} (hK : 0 < K) (h : BoI K G i K H) : BoI K G (i + 1) 0 H := by
 obtain ⟨nz, cv, C, ids, sps, hJ, a, b, c⟩ := h.ok
 have hl : ∀ v, v < i + 1 → zqi K i K v = zqi K (i + 1) 0 v := fun v hv => by
  unfold zqi
  rw [if_pos hv]
  by_cases e : v < i
  ·rw [if_pos e]
  ·rw [if_neg e, if_pos (by omega)]
 have hn : ∀ v, v < K → (nz v = true ↔ v < i + 1) := fun v hv => by
  rw [a v hv, decide_eq_true_eq]
  omega
 refine ⟨⟨nz, cv, C, ids, sps, hJ, fun v hv => ?_, fun v hv => ?_, fun v hv hz => ?_⟩, h.h1, h.h2⟩
 ·rw [a v hv, y2i, decide_eq_true_eq, decide_eq_true_eq]
  omega
 ·rw [b v hv]
  by_cases e : nz v = true
  ·rw [if_pos e, if_pos e, hl v ((hn v hv).1 e)]
  ·rw [if_neg e, if_neg e]
 ·rw [c v hv hz, hl v ((hn v hv).1 hz)]
theorem zpj {G : Nat → Nat → Int} {K i j : Nat} (h : j < K) : (zd2 G K i).take (j + 1) = (zd2 G K i).take j ++ [G i j] := by
 unfold zd2
 rw [y2f, y0a, y1a h]
 rfl
theorem zf6 {K i j j' v : Nat} (h : v ≠ i) : zqi K i j v = zqi K i j' v := by
 unfold zqi
 rw [if_neg h, if_neg h]
theorem zg4 {K i j : Nat} : zqi K i j i = j := by
 unfold zqi
 rw [if_neg (Nat.lt_irrefl i), if_pos rfl]
theorem zuz (K : Nat) (G : Nat → Nat → Int) {i j : Nat} (hi : i < 13) (hj : j < 13) : ((((sqC K G).drop 1).drop (((i : Nat) : Int).toNat * 13)).drop (((j : Nat) : Int).toNat * 1)) = .int .i64 (G i j) :: (sqC K G).drop (0 + 1 + ((i : Nat) : Int).toNat * 13 + ((j : Nat) : Int).toNat * 1 + 1) := by
 have h := zms K G hi hj
 obtain ⟨h1, h2⟩ := y03.1 h
 rw [List.drop_drop, List.drop_drop, show 1 + (((i : Nat) : Int).toNat * 13 + ((j : Nat) : Int).toNat * 1) = 0 + 1 + ((i : Nat) : Int).toNat * 13 + ((j : Nat) : Int).toNat * 1 by omega, y1v h1, h2]
set_option maxHeartbeats 2000000 in
set_option maxRecDepth 20000 in
theorem fill74 {w0 : World} {N0 : Nat} {K : Nat} {G : Nat → Nat → Int} (hK : K ≤ 13) (i j : Nat) (H : HS) (hi : i < K) (hj : j < K) (hI : BoI K G i j H) :
  FT Try.prog w0 N0 74 [.int .i64 (i : Nat), .int .i64 (j : Nat), .mptr 2 0 0, .vptr [.vptr (sqC K G)]] H fun _ H' => BoI K G i (j + 1) H' := by
 obtain ⟨nz, cv, C, ids, sps, hJ, a, b, c⟩ := hI.ok
 have g1 := zms K G (i := i) (j := j) (by omega) (by omega)
 have hnx := hJ.nx0
 refine zdj env0_ok fn74 [(0, .int .i64 (i : Nat)), (1, .int .i64 (j : Nat)), (2, .mptr 2 0 0), (3, .vptr [.vptr (sqC K G)])] (by show 4 ≤ 25; decide) rfl ?_
 unfold ic74
 have ez : ∀ o : Nat, 0 + ((o : Nat) : Int).toNat * 1 = o := fun o => by simp
 have hld : ∀ x : Nat, x ≤ 2 → (fun i => Nat.ble i 2) x = true := fun x hx => y21 hx
 refine z_cut env0_ok 18 [] (fun x hx => by cases hx) (fun _ => false) (fun i => Nat.ble i 2) (fun i => !(Nat.ble i 2)) (fun i h1 h2 => by rw [h1] at h2; cases h2) rfl rfl rfl rfl ?_
 show Om _ _ _ _ _ [_, _, _, _, _, _, _, _, _, _, _, _, _, _, _, _, _, _] _ _ _
 refine zae rfl ?_
 refine zas (id := 2) (sp := 0) (off := 0 + 1) rfl hI.h2 (by omega) rfl ?_ (zlf rfl (hld 2 (by decide)))
 refine za3 rfl ?_
 refine zae rfl ?_
 refine zas (id := 2) (sp := 0) (off := 0 + 1) rfl hI.h2 (by omega) rfl ?_ (zlf rfl (hld 2 (by decide)))
 refine za3 rfl ?_
 refine zc5 rfl rfl (y15 i) (y18.2 hi) ?_
 rw [ez]
 refine zas (id := 0) (sp := 0) (off := i) rfl hJ.top (by omega) (hJ.get hi) ?_ (zlf rfl (hld 0 (by decide)))
 refine zad rfl rfl ?_ (vpOk rfl)
 refine za3 rfl ?_
 refine za3 rfl ?_
 refine zme rfl ?_
 have hsl := zmt K G
 refine zal rfl (y21 (by rw [hsl]; decide)) rfl ?_
 refine zea rfl rfl (decide_eq_true ⟨by omega, by omega, by rw [y1x, hsl]; omega⟩) rfl ?_
 refine zea rfl rfl (decide_eq_true ⟨by omega, by omega, by rw [y1x, y1x, hsl]; omega⟩) (zuz K G (by omega) (by omega)) ?_
 refine zad rfl rfl ?_ (vpOk rfl)
 refine zc1 rfl rfl ?_ rfl
 obtain ⟨hp, nx, ck⟩ := H
 have hnx : 2 < nx := hnx
 have hJ : Jm K nz cv C ids sps hp nx := hJ
 have J1 := hJ.fresh ck (.cells [.int .i64 (G i j)])
 have hel : ∀ l : List (Nat × AV), (st 25 l ((nx, ck, AObj.cells [.int .i64 (G i j)]) :: hp) (nx + 1) (ck + 1) []).elems 1 (.ms nx ck 1 0 1 (some 1)) = some [[.int .i64 (G i j)]] := fun l => zd3 (xs := [[.int .i64 (G i j)]]) (ys := []) zai rfl fun x hx => by obtain rfl := y0h.1 hx; rfl
 have hai := a i hi
 have hbi := b i hi
 by_cases hj0 : j = 0
 ·subst hj0
  have hz : nz i = false := by rw [hai, decide_eq_false_iff_not]; omega
  rw [hz, if_neg y2o] at hbi
  have J2 := (J1.add i (ck + 1) [G i 0]).cset i (.ms (nx + 1) (ck + 1) 1 0 1 none)
  refine zkw (v := .ms (nx + 1) (ck + 1) 1 0 1 none) (hp' := (nx + 1, ck + 1, .cells [.int .i64 (G i 0)]) :: (nx, ck, .cells [.int .i64 (G i 0)]) :: hp) (nx' := nx + 1 + 1) (ck' := ck + 1 + 1) (congrArg some hbi) rfl (hel []) rfl ?_ (znx (congrArg some hbi))
  refine za8 (zam ⟨rfl, fun rd => ?_⟩)
  refine AnyF.one 18 rfl (zdd (i := 18) rfl rfl (zid rfl rfl (y15 i) (y18.2 hi)) ?_)
  rw [ez]
  refine AnyF.one 19 rfl (zgv (i := 19) rfl (zeh (id := 0) (sp := 0) (off := i) rfl rfl rfl rfl (J1.add i (ck + 1) [G i 0]).top (y21 (by simp; omega)) rfl) ?_)
  rw [zf2 (by simp; exact hi)]
  refine AnyF.fin rfl (Um.ok (zam ⟨.inl rfl, _, rfl, ⟨⟨_, _, _, _, _, J2, fun v hv => ?_, fun v hv => ?_, fun v hv hzv => ?_⟩, ?_, ?_⟩⟩))
  ·by_cases e : v = i
   ·subst e
    rw [zac, decide_eq_true (.inr ⟨rfl, by omega⟩)]
   ·rw [za6 _ _ e, a v hv, y2i, decide_eq_true_eq, decide_eq_true_eq]
    omega
  ·by_cases e : v = i
   ·subst e
    rw [zac, zac, zac, zac, if_pos rfl, zg4]
   ·rw [za6 _ _ e, za6 _ _ e, za6 _ _ e, za6 _ _ e, b v hv, zf6 e]
  ·by_cases e : v = i
   ·subst e
    rw [zac, zg4, zpj hj]
    rfl
   ·rw [za6 _ _ e] at hzv
    rw [za6 _ _ e, c v hv hzv, zf6 e]
  ·show Am.look 1 (zbb 0 _ ((nx + 1, _) :: (nx, _) :: hp)) = _
   rw [za4, if_neg (by decide), za2, if_neg (by omega), za2, if_neg (by omega)]
   exact hI.h1
  ·show Am.look 2 (zbb 0 _ ((nx + 1, _) :: (nx, _) :: hp)) = _
   rw [za4, if_neg (by decide), za2, if_neg (by omega), za2, if_neg (by omega)]
   exact hI.h2
 ·have hz : nz i = true := by rw [hai, decide_eq_true_eq]; omega
  rw [hz, if_pos rfl] at hbi
  have hli : zqi K i j i = j := by unfold zqi; rw [if_neg (Nat.lt_irrefl i), if_pos rfl]
  rw [hli] at hbi
  have hci := c i hi hz
  rw [hli] at hci
  have hpi := hJ.pos i hi hz
  have hsd : (fun i => !(Nat.ble i 2)) (ids i) = true := by
   show (!(Nat.ble (ids i) 2)) = true
   have : Nat.ble (ids i) 2 = false := by
    cases hb : Nat.ble (ids i) 2 with
    | false => rfl
    | true => have := y1d hb; omega
   rw [this]
   rfl
  have hc := J1.cell i hi hz
  rw [hci] at hc
  have hrl : ((zd2 G K i).take j).length = j := by rw [List.length_take, zl3]; omega
  have J2 := (J1.block hi hz (ck + 1) ((zd2 G K i).take j ++ [G i j])).cset i (.ms (ids i) (ck + 1) 1 0 (j + 1) none)
  have e0 : ((zd2 G K i).take j).map (AV.int .i64) ++ [[AV.int .i64 (G i j)]].flatten = ((zd2 G K i).take j ++ [G i j]).map (AV.int .i64) := by rw [y27]; rfl
  refine zek [[.int .i64 (G i j)]] (id := ids i) (sp := sps i) (len := j) (congrArg some hbi) rfl (hel _) (y2m 0) rfl (by decide) hc (by rw [y0e, hrl, Nat.mul_one]) (by show j + 1 ≤ 1048576; omega) ?_ (apOk (congrArg some hbi) hsd)
  rw [e0]
  refine za8 (zam ⟨rfl, fun rd => ?_⟩)
  refine AnyF.one 18 rfl (zdd (i := 18) rfl rfl (zid rfl rfl (y15 i) (y18.2 hi)) ?_)
  rw [ez]
  refine AnyF.one 19 rfl (zgv (i := 19) rfl (zeh (id := 0) (sp := 0) (off := i) rfl rfl rfl rfl (J1.block hi hz (ck + 1) ((zd2 G K i).take j ++ [G i j])).top (y21 (by simp; omega)) rfl) ?_)
  rw [zf2 (by simp; exact hi)]
  refine AnyF.fin rfl (Um.ok (zam ⟨.inl rfl, _, rfl, ⟨⟨_, _, _, _, _, J2, fun v hv => ?_, fun v hv => ?_, fun v hv hzv => ?_⟩, ?_, ?_⟩⟩))
  ·by_cases e : v = i
   ·subst e
    rw [hz, decide_eq_true (.inr ⟨rfl, by omega⟩)]
   ·rw [a v hv, y2i, decide_eq_true_eq, decide_eq_true_eq]
    omega
  ·by_cases e : v = i
   ·subst e
    rw [zac, zac, hz, if_pos rfl, zg4]
   ·rw [za6 _ _ e, za6 _ _ e, b v hv, zf6 e]
  ·by_cases e : v = i
   ·subst e
    rw [zac, zg4, zpj hj]
   ·rw [za6 _ _ e, c v hv hzv, zf6 e]
  ·show Am.look 1 (zbb 0 _ (zbb (ids i) _ ((nx, _) :: hp))) = _
   rw [za4, if_neg (by decide), za4, if_neg (by omega), za2, if_neg (by omega)]
   exact hI.h1
  ·show Am.look 2 (zbb 0 _ (zbb (ids i) _ ((nx, _) :: hp))) = _
   rw [za4, if_neg (by decide), za4, if_neg (by omega), za2, if_neg (by omega)]
   exact hI.h2
-- (*pneumatic/bounds.square).bounds
def ic56 : IC := .seq (.region [oM 1 (.box (.t 0)),
  oM 2 (.alloc [.int .i64 0, .nils])] none)
 (.seq (.region [oN 4 1,
  oM 5 (.nilchk (.t 4)),
  oF 6 0 5,
  oN 7 6,
  oM 8 (.bin .sub (.t 7) (.c (.int .i64 1))),
  oN 9 1,
  oM 10 (.nilchk (.t 9)),
  oF 11 0 10,
  oN 12 11,
  oM 13 (.mkslice 1 24 [.nils] (.t 12) (.t 12)),
  oM 14 (.build [.int .i64 0, .nils] [(0, 1, (.t 8)), (1, 1, (.t 13))]),
  oM 3 (.alloc [.int .i64 0, .nils]),
  ⟨none, .store 2 (.t 3) (.t 14), none⟩] (some [[], [0], [1], [2], [3], [], [5], [6], [7], [8, 8], [4, 9], [], [11, 10, 0, 1, 2, 3, 4, 5, 6, 7, 8, 9, 10, 11]]))
 (.seq (.region [oN 15 1,
  oM 16 (.mkfn 74 [] [(.t 3), (.t 1)]),
  oM 17 (.call (.c (.fn 54 [] [])) [(.t 15), (.t 16)])] none)
 (.seq (.region [oL 18 2 3,
  ⟨none, .store 2 (.t 2) (.t 18), none⟩] none)
 (.ret))))
theorem fn56 : env0.fn 56 = some ⟨19, ic56, [.cell 2 (some 2)]⟩ := by kernel_rfl
theorem zp3 (D : Nat → Nat → Int) (K : Nat) : ((List.range K).map fun v => vsI (zd2 D K v)) = ((zc7 D K).map fun r => ([vsI r] : List AV)).flatten := by
 unfold zc7
 rw [y1t]
 induction (List.range K) with
 | nil => rfl
 | cons x l ih =>
  rw [y16, y16, y1p, ← ih]
  rfl
theorem zix (D : Nat → Nat → Int) (K : Nat) : ∀ l : List Nat, hasM.hasML (l.map fun v => vsI (zd2 D K v)) = false
 | [] => rfl
 | _ :: l => by
  rw [y16]
  show (hasM (vsI _) || hasM.hasML _) = false
  rw [zix D K l]
  rfl
theorem zh8 (l : List Int) : l.map (AV.int .i64) = (l.map fun z => ([.int .i64 z] : List AV)).flatten := by
 induction l with
 | nil => rfl
 | cons x l ih =>
  rw [y16, y16, y1p, ← ih]
  rfl
theorem zgm {K : Nat} {nz : Nat → Bool} {cv : Nat → AV} {C : Nat → List Int} {ids sps : Nat → Nat} {hp : List (Nat × Nat × AObj)} {nx : Nat} (h : Jm K nz cv C ids sps hp nx) {x : Nat} (hx : x ≤ 2) : memN x ((fzJ K nz C ids sps).map (·.1)) = false := by
 cases hb : memN x ((fzJ K nz C ids sps).map (·.1)) with
 | false => rfl
 | true =>
  obtain ⟨y, hy, e⟩ := y0k.1 (zdf.1 hb)
  obtain ⟨u, hu, rfl⟩ := y0k.1 hy
  obtain ⟨h1, h2⟩ := y0t.1 hu
  have := (h.pos u (y0j.1 h1) h2).1
  have e : ids u = x := e
  omega
theorem zce {x y : Nat} {l : List Nat} (h : x ≠ y) (hl : memN x l = false) : memN x (y :: l) = false := by
 cases hb : memN x (y :: l) with
 | false => rfl
 | true =>
  rcases y0i.1 (zdf.1 hb) with e | e
  ·exact absurd e h
  ·rw [zdf.2 e] at hl
   cases hl
set_option maxHeartbeats 4000000 in
set_option maxRecDepth 20000 in
theorem bounds56 {K : Nat} {G : Nat → Nat → Int} (h1 : 1 ≤ K) (hK : K ≤ 13) : PF Try.prog 56 [.vptr (sqC K G)] (cB ((K : Nat) - 1) (zc7 G K)) := by
 refine zb2 env0_ok fn56 [(0, .vptr (sqC K G))] (by show 1 ≤ 19; decide) rfl fun w0 N0 => ?_
 unfold ic56
 refine zsr rfl (zdg rfl rfl (zbj (onu (za9 ?_))))
 refine zbo [(some (1, 1), [.int .i64 0, .nils])] [(0, 0, [.vptr (sqC K G)])] (zfc (sqC K G)) rfl (.cons rfl rfl .nil) (.cons rfl (.keep rfl) .nil) (.cons rfl (.fptr rfl rfl) (.cons rfl (.mptr rfl) .nil)) ?_
 show Zm _ _ _ _ (.region zpf (some reg56p)) _ _ _
 refine rows56 rfl hK ?_
 refine zsr rfl (zad rfl rfl (zmd rfl rfl ?_))
 have hy : ∀ i j H, i < K → j < K → BoI K G i j H → CT Try.prog w0 N0 (.fn 74 [] [.mptr 2 0 0, .vptr [.vptr (sqC K G)]]) [.int .i64 (i : Nat), .int .i64 (j : Nat)] H fun _ H' => BoI K G i (j + 1) H' :=
  fun i j H hi hj hI => zfz (fill74 hK i j H hi hj hI)
 refine zp8 _ rfl rfl (zfz (zsl (G := G) hK (BoI K G) hy (fun i H _ hI => hI.row (by omega)) ⟨_, _, _⟩ ⟨⟨fun _ => false, fun _ => .nils, fun _ => [], fun _ => 0, fun _ => 0, ⟨?_, fun _ _ h => Bool.noConfusion h, fun _ _ h => Bool.noConfusion h, fun _ _ _ _ h => Bool.noConfusion h, by show 2 < 3; decide⟩, fun v hv => ?_, fun v hv => ?_, fun v hv h => Bool.noConfusion h⟩, rfl, rfl⟩)) (fun _ _ _ _ hm => absurd hm y0f) fun v H2 hF => ?_
 ·rw [← zjv]
  rfl
 ·exact (decide_eq_false (by omega)).symm
 ·rfl
 obtain ⟨nz, cv, C, ids, sps, hJ, a, b, c⟩ := hF.ok
 have hz : ∀ v, v < K → nz v = true := fun v hv => by rw [a v hv, decide_eq_true (.inl hv)]
 have hln : ∀ v, v < K → zqi K K 0 v = K := fun v hv => if_pos hv
 have hm0 := zgm hJ (x := 0) (by decide)
 have hm1 := zgm hJ (x := 1) (by decide)
 have hm2 := zgm hJ (x := 2) (by decide)
 refine onu ?_
 refine zbo [(some (0, 0), (List.range K).map fun v => vsI (zd2 G K v)), (some (1, 0), [.int .i64 0, .nils]), (some (2, 0), [.int .i64 ((K : Nat) - 1), .ms 0 0 1 0 K (some K)])] (fzJ K nz C ids sps) [(2, .mptr 1 0 0), (3, .mptr 2 0 0)] ?_ hJ.rnF
  (.cons hJ.top (zmm fun v hv => ?_) (.cons hF.h1 (.keep rfl) (.cons hF.h2 (.cons (.same rfl) (.cons (.ms rfl) .nil)) .nil))) (.cons rfl (.mptr rfl) (.cons rfl (.mptr rfl) .nil)) ?_
 ·show (!memN 0 _ && (!memN 1 (0 :: _) && (!memN 2 (1 :: 0 :: _) && true))) = true
  rw [hm0, zce (by decide) hm1, zce (by decide) (zce (by decide) hm2)]
  rfl
 ·have hv := y0j.1 hv
  have hb := b v hv
  rw [hz v hv, if_pos rfl, hln v hv] at hb
  have hc := c v hv (hz v hv)
  rw [hln v hv, y2k (by rw [zl3]; exact y0c _)] at hc
  rw [hb]
  have hf := hJ.fzl hv (hz v hv)
  rw [hc] at hf
  exact .fms0 hf (zdy G K v) (fun x hx => by obtain ⟨z, _, rfl⟩ := y0k.1 hx; rfl) (zh8 _)
 refine zbo [(some (1, 0), [.int .i64 0, .nils]), (some (2, 0), [.int .i64 ((K : Nat) - 1), .vs ((zc7 G K).map fun r => ([vsI r] : List AV))])] [(0, 0, (List.range K).map fun v => vsI (zd2 G K v))] [(2, .mptr 0 0 0), (3, .mptr 1 0 0)] rfl (.cons rfl (zix G K _) .nil)
  (.cons rfl (.keep rfl) (.cons rfl (.cons (.same rfl) (.cons (.fms0 rfl (zej G K) (fun x hx => by obtain ⟨z, _, rfl⟩ := y0k.1 hx; rfl) (zp3 G K)) .nil)) .nil)) (.cons rfl (.mptr rfl) (.cons rfl (.mptr rfl) .nil)) ?_
 refine zsr rfl (zb8 rfl rfl rfl rfl (zbq rfl rfl rfl rfl rfl rfl rfl (onu (zaz ?_))))
 exact zam ⟨.inr rfl, _, rfl, rfl⟩
def own61 : List (List AV × List AV) := (List.range 13).map fun m => ([.vs [[.int .i64 (-1)]], .int .i64 (m : Nat)], List.replicate m (AV.int .i64 (-1)))
theorem own61_ok : ownRun Try.prog (env0.tab [] []) 80 58 some own61 = true := by kernel_rfl
theorem repeat61 {m : Nat} (h : m ≤ 12) : PFo Try.prog 58 [.vs [[.int .i64 (-1)]], .int .i64 (m : Nat)] 1 m (some m) ((List.replicate m (-1 : Int)).map (AV.int .i64)) := by
 have := own_rows (env0_ok.tab TabOk.nil) own61_ok ([.vs [[.int .i64 (-1)]], .int .i64 (m : Nat)], List.replicate m (AV.int .i64 (-1))) (y0k.2 ⟨m, y0j.2 (by omega), rfl⟩)
 simp only [y1q] at this
 rw [List.map_replicate]
 exact this
def iN (q : List Nat) : List AV := q.map fun w => AV.int .i64 (w : Nat)
theorem iN_len (q : List Nat) : (iN q).length = q.length := y0e ..
inductive QV (hp : List (Nat × Nat × AObj)) (nx : Nat) (q : List Nat) : AV → Prop
 | lit {id sp : Nat} (a : Nat) (hq : q = [a]) (hl : Am.look id hp = some (sp, .cells (iN [a]))) (h1 : id ≠ 1) (hn : id < nx) : QV hp nx q (.ms id sp 1 0 1 (some 1))
 | gen {id sp off : Nat} {cs : List AV} (hl : Am.look id hp = some (sp, .cells cs)) (hd : cs.drop off = iN q) (h1 : id ≠ 1) (hn : id < nx) : QV hp nx q (.ms id sp 1 off q.length none)
 | nil {id sp off : Nat} (hq : q = []) : QV hp nx q (.ms id sp 1 off 0 (some 0))
structure Fq (o : List Int) (q : List Nat) (qv : AV) (hp : List (Nat × Nat × AObj)) (nx : Nat) : Prop where
 out : Am.look 1 hp = some (2, .cells (o.map (AV.int .i64)))
 nx1 : 1 < nx
 qu : QV hp nx q qv
section
variable {w0 : World} {N0 n d nx ck : Nat} {k : List Fr} {Q : Exit → AS → Prop} {o : List Int} {q : List Nat} {qv : AV} {hp : List (Nat × Nat × AObj)} {l : List (Nat × AV)} {ios : List Opr}
theorem Fq.fresh (h : Fq o q qv hp nx) (ck : Nat) (x : AObj) : Fq o q qv ((nx, ck, x) :: hp) (nx + 1) := by
 have h1 := h.nx1
 refine ⟨by rw [za2, if_neg (by omega)]; exact h.out, by omega, ?_⟩
 cases h.qu with
 | lit a hq hl h1 hn => exact .lit a hq (by rw [za2, if_neg (by omega)]; exact hl) h1 (by omega)
 | gen hl hd h1 hn => exact .gen (by rw [za2, if_neg (by omega)]; exact hl) hd h1 (by omega)
 | nil hq => exact .nil hq
theorem Fq.set (h : Fq o q qv hp nx) (v : Nat) (x : Int) : Fq (o.set v x) q qv (zbb 1 (2, .cells ((o.map (AV.int .i64)).set v (.int .i64 x))) hp) nx := by
 refine ⟨by rw [za4, if_pos rfl, ← List.map_set], h.nx1, ?_⟩
 cases h.qu with
 | lit a hq hl h1 hn => exact .lit a hq (by rw [za4, if_neg (fun e => h1 e.symm)]; exact hl) h1 hn
 | gen hl hd h1 hn => exact .gen (by rw [za4, if_neg (fun e => h1 e.symm)]; exact hl) hd h1 hn
 | nil hq => exact .nil hq
theorem o_qlen {x : Arg} (hF : Fq o q qv hp nx) (hx : zb0 x l = some qv) (go : Om Try.prog w0 N0 none (KnP Try.prog w0 N0) ios (st n ((d, .int .i64 (q.length : Nat)) :: l) hp nx ck) k Q) : Om Try.prog w0 N0 none (KnP Try.prog w0 N0) (⟨some d, .len false x, none⟩ :: ios) (st n l hp nx ck) k Q := by
 cases hF.qu with
 | lit a hq hl h1 hn => subst hq; exact zcr hx rfl go
 | gen hl hd h1 hn => exact zcr hx rfl go
 | nil hq => subst hq; exact zcr hx rfl go
theorem zu6 {d2 a : Nat} {qs : List Nat} {x : Arg} (hF : Fq o (a :: qs) qv hp nx) (hx : zb0 x l = some qv) (go : ∀ p, Om Try.prog w0 N0 none (KnP Try.prog w0 N0) ios (st n ((d2, .int .i64 (a : Nat)) :: (d, p) :: l) hp nx ck) k Q) :
  Om Try.prog w0 N0 none (KnP Try.prog w0 N0) (⟨some d, .idxs 1 x (.c (.int .i64 0)), none⟩ :: ⟨some d2, .load none (.t d), none⟩ :: ios) (st n l hp nx ck) k Q := by
 have ht : ∀ p : AV, zb0 (.t d) ((d, p) :: l) = some p := fun p => by
  show zck d ((d, p) :: l) = some p
  rw [zck, y23]
 cases hF.qu with
 | @lit id sp a2 hq hl h1 hn =>
  injection hq with hq _
  subst hq
  refine zc5 hx rfl (y2a 0) (by decide) ?_
  exact zas (id := id) (sp := sp) (off := 0) (ht _) hl hn rfl (go _)
 | @gen id sp off cs hl hd h1 hn =>
  refine zc5 hx rfl (y2a 0) (by rw [y0q]; omega) ?_
  refine zas (id := id) (sp := sp) (off := off + 0 * 1) (ht _) hl hn ?_ (go _)
  have := congrArg (fun l => l[0]?) hd
  simp only [y14] at this
  rw [show off + 0 * 1 = off + 0 by omega, this]
  rfl
 | nil hq => cases hq
theorem o_qapp {bytes j sj v : Nat} {z : List AV} {s x : Arg} (hF : Fq o q qv hp nx) (hne : q ≠ []) (hlen : q.length ≤ 1000000) (hs : zb0 s l = some qv) (hx : zb0 x l = some (.ms j sj 1 0 1 (some 1))) (hj : Am.look j hp = some (sj, .cells [.int .i64 (v : Nat)])) (hb : bytes ≤ 16777216)
  (go : ∀ qv' hp' nx' ck', Fq o (q ++ [v]) qv' hp' nx' → Om Try.prog w0 N0 none (KnP Try.prog w0 N0) ios (st n ((d, qv') :: l) hp' nx' ck') k Q) :
  Om Try.prog w0 N0 none (KnP Try.prog w0 N0) (⟨some d, .append 1 bytes z s x, none⟩ :: ios) (st n l hp nx ck) k Q := by
 have hel : (st n l hp nx ck []).elems 1 (.ms j sj 1 0 1 (some 1)) = some [[.int .i64 (v : Nat)]] := zd3 (xs := [[.int .i64 (v : Nat)]]) (ys := []) hj rfl fun x hx => by obtain rfl := y0h.1 hx; rfl
 have hn1 := hF.nx1
 cases hF.qu with
 | @lit id sp a hq hl h1 hn =>
  subst hq
  have hi : iop (st n l hp nx ck) (.append 1 bytes z s x) = some (.ms nx ck 1 0 2 none, st n l ((nx, ck, .cells (iN [a, v])) :: hp) (nx + 1) (ck + 1)) := by
   simp only [iop, zar, hs, hx, hel]
   unfold zbc
   rw [if_neg (show ¬ [[AV.int .i64 (v : Nat)]].length = 0 from y2m 0), if_pos (show [[AV.int .i64 (v : Nat)]].flatten.all AV.isCell = true ∧ bytes ≤ 16777216 from ⟨rfl, hb⟩)]
   simp only [show (st n l hp nx ck []).heap = hp from rfl, hl]
   rw [if_pos (show True ∧ True ∧ 0 + 1 * 1 ≤ (iN [a]).length ∧ 1 + [[AV.int .i64 (v : Nat)]].length ≤ 1048576 from ⟨trivial, trivial, y0c 1, (by show 2 ≤ 1048576; decide)⟩), if_neg (show ¬ 1 + [[AV.int .i64 (v : Nat)]].length ≤ 1 from (by show ¬ 2 ≤ 1; decide))]
   rfl
  refine zel hi (go _ _ _ _ ⟨by rw [za2, if_neg (by omega)]; exact hF.out, by omega, ?_⟩) (fun _ _ _ _ _ _ _ => rfl)
  exact .gen (q := [a, v]) (off := 0) zai rfl (by omega) (by omega)
 | @gen id sp off cs hl hd h1 hn =>
  have e1 : cs.length - off = q.length := by rw [← y1x, hd, iN_len]
  have e2 := List.length_pos_iff.2 hne
  refine zmb [[.int .i64 (v : Nat)]] hs hx hel (y2m 0) rfl hb hl (by omega) (by show q.length + 1 ≤ 1048576; omega) ?_ (fun _ _ _ _ _ _ _ => rfl)
  refine go _ _ _ _ ⟨by rw [za4, if_neg h1]; exact hF.out, hn1, ?_⟩
  have e3 : (cs.drop off).take (q.length * 1) ++ [[AV.int .i64 (v : Nat)]].flatten = iN (q ++ [v]) := by
   rw [hd, y2k (by rw [iN_len]; omega)]
   unfold iN
   rw [y27]
   rfl
  rw [e3]
  have := QV.gen (hp := zbb id (ck, .cells (iN (q ++ [v]))) hp) (nx := nx) (q := q ++ [v]) (id := id) (sp := ck) (off := 0) (cs := iN (q ++ [v])) (by rw [za4, if_pos rfl]) rfl h1 hn
  rw [y0p] at this
  exact this
 | nil hq => exact absurd hq hne
theorem o_qcut {a : Nat} {qs : List Nat} {x : Arg} (hF : Fq o (a :: qs) qv hp nx) (hx : zb0 x l = some qv) (go : ∀ qv', Fq o qs qv' hp nx → Om Try.prog w0 N0 none (KnP Try.prog w0 N0) ios (st n ((d, qv') :: l) hp nx ck) k Q) :
  Om Try.prog w0 N0 none (KnP Try.prog w0 N0) (⟨some d, .slsl 1 x (some (.c (.int .i64 1))) none none, none⟩ :: ios) (st n l hp nx ck) k Q := by
 cases hF.qu with
 | @lit id sp a2 hq hl h1 hn =>
  injection hq with _ hq
  refine o_slsl (lv := some (.int .i64 1)) (hv := none) (lo := 1) (hh := ((1 : Nat) : Int)) hx rfl rfl rfl rfl (by decide) (by decide) (by decide) (go _ ⟨hF.out, hF.nx1, .nil hq⟩)
 | @gen id sp off cs hl hd h1 hn =>
  refine o_slsl (lv := some (.int .i64 1)) (hv := none) (lo := 1) (hh := (((a :: qs).length : Nat) : Int)) hx rfl rfl rfl rfl (by decide) (by rw [y0q]; omega) (y2a _) (go _ ⟨hF.out, hF.nx1, ?_⟩)
  have := QV.gen (hp := hp) (nx := nx) (q := qs) (id := id) (sp := sp) (off := off + 1) (cs := cs) hl (by rw [← List.drop_drop, hd]; rfl) h1 hn
  exact this
 | nil hq => cases hq
end
def b34_2 : IC := .seq (.region [oM 31 (.bin .lss (.t 30) (.t 29))] none)
 (.seq (.cond (.t 31) (.skip)
 (.exit 2))
 (.seq (.block 3 (.seq (.region [oM 32 (.idxs 1 (.t 28) (.t 30)),
  oN 33 32,
  oT 8 33] none)
 (.seq (.region [oT 34 5,
  oT 35 8,
  oM 36 (.idxs 1 (.t 34) (.t 35)),
  oN 37 36,
  oM 38 (.bin .lss (.t 37) (.c (.int .i64 0)))] none)
 (.cond (.t 38) (.seq (.region [oT 39 5,
  oT 40 8,
  oT 41 5,
  oT 42 6,
  oM 43 (.idxs 1 (.t 42) (.c (.int .i64 0))),
  oN 44 43,
  oM 45 (.idxs 1 (.t 41) (.t 44)),
  oN 46 45,
  oM 47 (.bin .add (.t 46) (.c (.int .i64 1))),
  oM 48 (.idxs 1 (.t 39) (.t 40)),
  ⟨none, .store 1 (.t 48) (.t 47), none⟩] none)
 (.region [oT 49 6,
  oT 50 8,
  oM 51 (.bslice 1 1 [.int .i64 0] [(0, 1, (.t 50))]),
  oM 52 (.append 1 8 [.int .i64 0] (.t 49) (.t 51)),
  oT 6 52] none))
 (.skip)))))
 (.region [oM 53 (.bin .add (.t 30) (.c (.int .i64 1))),
  oT 30 53] none)))
def b34_0 : IC := .seq (.seq (.region [oT 18 6,
  oM 19 (.len false (.t 18)),
  oM 20 (.bin .gtr (.t 19) (.c (.int .i64 0)))] none)
 (.cond (.t 20) (.skip)
 (.exit 0)))
 (.seq (.block 1 (.seq (.region [oT 23 0,
  oT 24 6,
  oM 25 (.idxs 1 (.t 24) (.c (.int .i64 0))),
  oN 26 25,
  oM 27 (.idxs 1 (.t 23) (.t 26)),
  oN 28 27,
  oM 29 (.len false (.t 28)),
  oM 30 (.mov (.c (.int .i64 0)))] none)
 (.block 2 (.loop b34_2))))
 (.region [oT 21 6,
  oM 22 (.slsl 1 (.t 21) (some (.c (.int .i64 1))) none none),
  oT 6 22] none))
-- (pneumatic/digraph.net).far
def ic34 : IC := .seq (.region [oM 4 (.mov (.c (.nils)))] none)
 (.seq (.region [oM 9 (.bslice 1 1 [.int .i64 0] [(0, 1, (.c (.int .i64 (-1))))]),
  oT 10 0,
  oM 11 (.len false (.t 10)),
  oM 12 (.call (.c (.fn 58 [] [])) [(.t 9), (.t 11)]),
  oT 5 12] none)
 (.seq (.region [oT 13 5,
  oT 14 1,
  oM 15 (.idxs 1 (.t 13) (.t 14)),
  ⟨none, .store 1 (.t 15) (.c (.int .i64 0)), none⟩] none)
 (.seq (.seq (.region [oT 16 1,
  oM 17 (.bslice 1 1 [.int .i64 0] [(0, 1, (.t 16))]),
  oT 6 17] none)
 (.block 0 (.loop b34_0)))
 (.seq (.region [oT 54 5,
  oT 4 54] none)
 (.ret)))))
theorem fn34 : env0.fn 34 = some ⟨55, ic34, [.t 4]⟩ := by kernel_rfl
theorem gI_get {o : List Int} {v : Nat} (h : v < o.length) : (o.map (AV.int .i64))[v]? = some (.int .i64 (gI o v)) := by
 unfold gI
 rw [y0a, y0d, y09 h]
 rfl
theorem ze6 : ∀ l : List Int, flat.flatL (l.map (AV.int .i64)) = true
 | [] => rfl
 | z :: l => by
  rw [y16]
  show (flat (AV.int .i64 z) && flat.flatL (l.map (AV.int .i64))) = true
  rw [ze6 l]
  rfl
theorem unl_le (o : List Int) : unl o ≤ o.length := y20 ..
def t48 (E : List (Nat × Nat)) (m : Nat) (qv : AV) (l : List Nat) (i : Nat) : List (Nat × AV) := [(0, cN E m), (5, .ms 1 2 1 0 m (some m)), (6, qv), (28, vN l), (29, .int .i64 ((l.map fun w => ([.int .i64 (w : Nat)] : List AV)).length : Nat)), (30, .int .i64 (i : Nat))]
set_option maxHeartbeats 4000000 in
theorem far48 (m : Nat) (hm : m ≤ 12) (E : List (Nat × Nat)) (hb : ∀ u v, (u, v) ∈ E → u < m ∧ v < m) (f : Nat) (hf : f < m) : PF Try.prog 34 [cN E m, .int .i64 (f : Nat)] (vsI (zsq E m f m)) := by
 have ez : ∀ o : Nat, 0 + ((o : Nat) : Int).toNat * 1 = o := fun o => by simp
 have hlen : ((List.range m).map fun v => ([vN (nbr E m v)] : List AV)).length = m := by rw [y0e, y12]
 have hb2 := fun u v h => (hb u v h).2
 refine zb2 env0_ok fn34 [(0, cN E m), (1, .int .i64 (f : Nat))] (by show 2 ≤ 55; decide) rfl fun w0 N0 => ?_
 unfold ic34
 refine zbo [] [] [(0, cN E m), (1, .int .i64 (f : Nat))] rfl .nil .nil (.cons rfl (.same rfl) (.cons rfl (.same rfl) .nil)) ?_
 repeat (first | refine za9 ?_ | refine za1 rfl ?_ | refine za8 ?_ | refine za7 ?_ | refine za3 rfl ?_ | refine zcr rfl rfl ?_ | refine zc1 rfl rfl ?_)
 rw [hlen]
 refine o_own rfl rfl (repeat61 hm) (ze6 _) ?_
 repeat (first | refine za9 ?_ | refine za1 rfl ?_ | refine za8 ?_ | refine za7 ?_ | refine za3 rfl ?_ | refine zc5 rfl rfl (by omega) (by omega) ?_)
 rw [ez]
 refine zci (id := 1) (sp := 2) (off := f) rfl rfl rfl rfl (by simp; exact hf) rfl ?_
 repeat (first | refine za9 ?_ | refine za1 rfl ?_ | refine za8 ?_ | refine za7 ?_ | refine zah ?_ | refine za3 rfl ?_ | refine zc1 rfl rfl ?_)
 have hF0 : Fq ((List.replicate m (-1 : Int)).set f 0) [f] (.ms 2 3 1 0 1 (some 1)) ((2, 3, .cells [.int .i64 (f : Nat)]) :: zbb 1 (2, .cells (((List.replicate m (-1 : Int)).map (AV.int .i64)).set f (.int .i64 0))) [(1, 2, .cells ((List.replicate m (-1 : Int)).map (AV.int .i64))), (0, 1, .cells [.int .i64 (-1)])]) 3 :=
  ⟨by rw [za2, if_neg (by decide), za4, if_pos rfl, ← List.map_set], by decide, .lit f rfl zai (by decide) (by decide)⟩
 have hu0 := unl_le ((List.replicate m (-1 : Int)).set f 0)
 rw [y1o, y1q] at hu0
 refine zbn (fun mm S => ∃ o q qv hp nx ck, mm = 2 * unl o + q.length ∧ mm ≤ 100 ∧ Bfs E m f o q ∧ Fq o q qv hp nx ∧ S = st 55 [(0, cN E m), (5, .ms 1 2 1 0 m (some m)), (6, qv)] hp nx ck) (2 * unl ((List.replicate m (-1 : Int)).set f 0) + 1)
  (zaa (.cons rfl (.cons rfl (.cons rfl .nil)))) ⟨_, _, _, _, _, _, rfl, by omega, Bfs.start E hf, hF0, rfl⟩ ?_
 rintro mm S ⟨o, q, qv, hp, nx, ck, rfl, hmm, hB, hF, rfl⟩
 unfold b34_0
 repeat (first | refine za9 ?_ | refine za1 rfl ?_ | refine za3 rfl ?_)
 refine o_qlen hF rfl ?_
 refine zao rfl rfl rfl (fun h3 => ?_) fun h3 => ?_
 ·obtain ⟨a, qs, rfl⟩ : ∃ a qs, q = a :: qs := by
   cases q with
   | nil => exact absurd (of_decide_eq_true h3) (by decide)
   | cons a qs => exact ⟨a, qs, rfl⟩
  have ha0 := hB.inq a (y06 ..)
  have ham : a < m := hB.len ▸ gI_lt ha0
  have halt := ztu hB.len hB.down a
  have hga : ((List.range m).map fun v => ([vN (nbr E m v)] : List AV))[((a : Nat) : Int).toNat]? = some [vN (nbr E m a)] := by
   rw [y0y, y0a, y1a ham]
   rfl
  have hmem : ∀ v, v ∈ nbr E m a ↔ (a, v) ∈ E := fun v => ze2 hb2
  have hmN : ∀ v ∈ nbr E m a, v < m := fun v hv => hb2 _ _ ((hmem v).1 hv)
  obtain ⟨o9, new9, e9, hB9, hm9, _⟩ := hB.step hmem hmN
  have hvf := fun i => zpz (d := gI o a + 1) (by omega) o qs ((nbr E m a).take i) fun v hv => by rw [hB.len]; exact hmN v (List.mem_of_mem_take hv)
  have hbig : (nbr E m a).length ≤ m := by
   unfold nbr
   refine y0v (y20 ..) ?_
   rw [y12]
   exact y0c _
  generalize nbr E m a = l at *
  repeat (first | refine za9 ?_ | refine za1 rfl ?_ | refine za8 ?_ | refine za7 ?_ | refine zah ?_ | refine zaf ?_ | refine zd8 rfl ?_ | refine za3 rfl ?_)
  refine zu6 hF rfl fun p => ?_
  repeat (first | refine za8 ?_ | refine za7 ?_ | refine zah ?_ | refine za3 rfl ?_ | refine zad rfl rfl ?_ | refine zcr rfl rfl ?_ | refine zba rfl rfl (by omega) (by assumption) rfl ?_)
  refine zbn (fun mm S => ∃ i o' new qv hp nx ck, mm = l.length - i ∧ i ≤ l.length ∧ (l.take i).foldl (vis (gI o a + 1)) (o, qs) = (o', qs ++ new) ∧ Fq o' (a :: (qs ++ new)) qv hp nx ∧ S = st 55 (t48 E m qv l i) hp nx ck) l.length
   (zaa (.cons rfl (.cons rfl (.cons rfl (.cons rfl (.cons rfl (.cons rfl .nil))))))) ⟨0, o, [], _, _, _, _, rfl, y19 _, by rw [y13]; rfl, by rw [y13]; exact hF, rfl⟩ ?_
  rintro mm S ⟨i, o', new, qv, hp, nx, ck, rfl, hi, hfo, hF, rfl⟩
  unfold b34_2 t48
  repeat (first | refine za9 ?_ | refine za1 rfl ?_)
  obtain ⟨o2, new2, e2, hx⟩ := hvf i
  obtain ⟨rfl, hnn⟩ : o' = o2 ∧ qs ++ new = qs ++ new2 := by rw [hfo] at e2; exact ⟨congrArg Prod.fst e2, congrArg Prod.snd e2⟩
  obtain rfl := List.append_cancel_left hnn
  have hol : o'.length = m := hx.len.trans hB.len
  have hcnt := hx.cnt
  rw [y0q] at hmm
  refine zao rfl rfl rfl (fun h4 => ?_) fun h4 => ?_
  ·have hlt : i < l.length := by
    have h5 : ((i : Nat) : Int) < (((l.map fun w => ([.int .i64 (w : Nat)] : List AV)).length : Nat) : Int) := of_decide_eq_true h4
    rw [y0e] at h5
    exact y18.1 h5
   have w1 : IntKind.wrap .i64 (((i : Nat) : Int) + 1) = ((i + 1 : Nat) : Int) := zab i (by omega)
   have hgv : (l.map fun w => ([.int .i64 (w : Nat)] : List AV))[((i : Nat) : Int).toNat]? = some [.int .i64 (l[i] : Nat)] := by
    rw [y0y, y0a, y09 hlt]
    rfl
   have hvm := hmN l[i] (y17 hlt)
   have hfs : (l.take (i + 1)).foldl (vis (gI o a + 1)) (o, qs) = vis (gI o a + 1) (o', qs ++ new) l[i] := by
    rw [y2f, y09 hlt]
    show (l.take i ++ [l[i]]).foldl _ _ = _
    rw [y2e, hfo]
    rfl
   generalize l[i] = v at *
   have hva : gI o' a = gI o a := hx.old a ha0
   repeat (first | refine za9 ?_ | refine za1 rfl ?_ | refine za8 ?_ | refine za7 ?_ | refine zah ?_ | refine zaf ?_ | refine zd8 rfl ?_ | refine za3 rfl ?_ | refine zad rfl rfl ?_ | refine zba rfl rfl (by omega) (by assumption) rfl ?_ | refine zc5 rfl rfl (by omega) (by omega) ?_)
   rw [ez]
   refine zas (id := 1) (sp := 2) (off := v) rfl hF.out hF.nx1 (gI_get (by omega)) ?_
   refine zao rfl rfl rfl (fun h5 => ?_) fun h5 => ?_
   ·have h5 : gI o' v < 0 := of_decide_eq_true h5
    have w2 : IntKind.wrap .i64 (gI o a + 1) = gI o a + 1 := zgt _ (by omega) (by omega)
    have hv1 : vis (gI o a + 1) (o', qs ++ new) v = (o'.set v (gI o a + 1), qs ++ new ++ [v]) := if_pos h5
    rw [hv1] at hfs
    repeat (first | refine za9 ?_ | refine za1 rfl ?_ | refine za8 ?_ | refine za7 ?_ | refine zd8 rfl ?_ | refine za3 rfl ?_)
    refine zu6 hF rfl fun p => ?_
    repeat (first | refine zc5 rfl rfl (by omega) (by omega) ?_)
    rw [ez]
    refine zas (id := 1) (sp := 2) (off := a) rfl hF.out hF.nx1 (gI_get (by omega)) ?_
    rw [hva]
    repeat (first | refine zb5 (op := .add) rfl rfl rfl ?_ | refine zc5 rfl rfl (by omega) (by omega) ?_)
    rw [ez, w2]
    refine zci (id := 1) (sp := 2) (off := v) rfl rfl rfl hF.out (by simp; omega) rfl ?_
    repeat (first | refine za1 rfl ?_ | refine za8 ?_ | refine za7 ?_ | refine za3 rfl ?_ | refine zc1 rfl rfl ?_)
    have hF2 := (hF.set v (gI o a + 1)).fresh ck (.cells [.int .i64 (v : Nat)])
    refine o_qapp hF2 (List.cons_ne_nil _ _) (by rw [y0q, y0p]; rw [y0p] at hm9; omega) rfl rfl zai (by decide) fun qv' hp' nx' ck' hF' => ?_
    repeat (first | refine za1 rfl ?_ | refine za8 ?_ | refine za7 ?_ | refine zbm ?_ | refine za3 rfl ?_ | refine zb5 (op := .add) rfl rfl rfl ?_)
    rw [w1]
    refine zat (show l.length - (i + 1) < l.length - i by omega) (zaa (.cons rfl (.cons rfl (.cons rfl (.cons rfl (.cons rfl (.cons rfl .nil))))))) ⟨i + 1, _, new ++ [v], _, _, _, _, rfl, hlt, by rw [hfs, y1y], ?_, rfl⟩
    rw [← y1y]
    exact hF'
   ·have h5 : ¬ gI o' v < 0 := of_decide_eq_false h5
    have hv1 : vis (gI o a + 1) (o', qs ++ new) v = (o', qs ++ new) := if_neg h5
    rw [hv1] at hfs
    repeat (first | refine za1 rfl ?_ | refine za8 ?_ | refine za7 ?_ | refine zbm ?_ | refine zaf ?_ | refine zc3 rfl ?_ | refine za3 rfl ?_ | refine zb5 (op := .add) rfl rfl rfl ?_)
    rw [w1]
    exact zat (show l.length - (i + 1) < l.length - i by omega) (zaa (.cons rfl (.cons rfl (.cons rfl (.cons rfl (.cons rfl (.cons rfl .nil))))))) ⟨i + 1, _, new, _, _, _, _, rfl, hlt, hfs, hF, rfl⟩
  ·have hie : i = l.length := by
    have h5 : ¬ ((i : Nat) : Int) < (((l.map fun w => ([.int .i64 (w : Nat)] : List AV)).length : Nat) : Int) := of_decide_eq_false h4
    rw [y0e] at h5
    omega
   subst hie
   rw [y1w, e9] at hfo
   obtain ⟨rfl, hnn⟩ : o9 = o' ∧ qs ++ new9 = qs ++ new := ⟨congrArg Prod.fst hfo, congrArg Prod.snd hfo⟩
   obtain rfl := List.append_cancel_left hnn
   repeat (first | refine za9 ?_ | refine za8 ?_ | refine za7 ?_ | refine zc3 rfl ?_ | refine zbw ?_ | refine zak ?_)
   refine zdb ?_
   repeat (first | refine za1 rfl ?_ | refine za7 ?_ | refine zbm ?_ | refine zbu ?_ | refine za3 rfl ?_)
   refine o_qcut hF rfl fun qv' hF' => ?_
   repeat (first | refine za8 ?_ | refine za3 rfl ?_)
   exact zat hm9 (zaa (.cons rfl (.cons rfl (.cons rfl .nil)))) ⟨_, _, _, _, _, _, rfl, by rw [y0q] at hm9; omega, hB9, hF', rfl⟩
 ·obtain rfl : q = [] := by
   cases q with
   | nil => rfl
   | cons a qs =>
    have h4 : ¬ (((a :: qs).length : Nat) : Int) > 0 := of_decide_eq_false h3
    rw [y0q] at h4
    omega
  have he := hB.end.unique (zkb hf hb2)
  subst he
  repeat (first | refine za8 ?_ | refine za7 ?_ | refine zc3 rfl ?_ | refine zbw ?_ | refine zak ?_)
  refine zdb ?_
  repeat (first | refine za9 ?_ | refine za1 rfl ?_ | refine za8 ?_ | refine za7 ?_ | refine zaz ?_ | refine zbu ?_ | refine za3 rfl ?_)
  refine zam ⟨.inr rfl, _, rfl, ?_⟩
  exact zdq _ (by have := hB.len; exact this) hF.out
-- pneumatic/pneumaticref10.Vertex
def ic48 : IC := .seq (.region [oM 2 (.box (.t 0)),
  oM 4 (.mov (.c (.bool false)))] none)
 (.seq (.region [oT 5 1,
  oM 6 (.bin .geq (.t 5) (.c (.int .i64 0))),
  oT 7 6,
  ⟨(some 8), .mov (.t 1), some (7, true)⟩,
  ⟨(some 9), .faddr 0 (.t 2), some (7, true)⟩,
  ⟨(some 10), .load none (.t 9), some (7, true)⟩,
  ⟨(some 11), .bin .lss (.t 8) (.t 10), some (7, true)⟩,
  oM 12 (.pick (.t 7) (.t 11) (.c (.bool false))),
  oT 4 12] none)
 (.ret))
theorem fn48 : env0.fn 48 = some ⟨13, ic48, [.t 4]⟩ := by kernel_rfl
def b26_0 : IC := .seq (.seq (.region [oT 16 3,
  oF 17 1 1,
  oN 18 17,
  oM 19 (.len false (.t 18)),
  oM 20 (.bin .lss (.t 16) (.t 19))] none)
 (.cond (.t 20) (.skip)
 (.exit 0)))
 (.seq (.block 1 (.seq (.region [oL 23 2 1,
  oF 24 1 1,
  oN 25 24,
  oT 26 3,
  oM 27 (.idxs 2 (.t 25) (.t 26)),
  oF 28 0 27,
  oN 29 28,
  oM 30 (.call (.c (.fn 48 [] [])) [(.t 23), (.t 29)]),
  oM 31 (.un .not (.t 30)),
  oT 32 31,
  ⟨(some 33), .load (some 2) (.t 1), some (32, false)⟩,
  ⟨(some 34), .faddr 1 (.t 1), some (32, false)⟩,
  ⟨(some 35), .load none (.t 34), some (32, false)⟩,
  ⟨(some 36), .mov (.t 3), some (32, false)⟩,
  ⟨(some 37), .idxs 2 (.t 35) (.t 36), some (32, false)⟩,
  ⟨(some 38), .faddr 1 (.t 37), some (32, false)⟩,
  ⟨(some 39), .load none (.t 38), some (32, false)⟩,
  ⟨(some 40), .call (.c (.fn 48 [] [])) [(.t 33), (.t 39)], some (32, false)⟩,
  ⟨(some 41), .un .not (.t 40), some (32, false)⟩,
  oM 42 (.pick (.t 32) (.c (.bool true)) (.t 41))] (some [[], [], [1], [], [2, 3], [4], [5], [0, 6], [7], [8, 7], [9], [9], [11, 9], [9], [12, 13, 9], [14, 9], [15, 9], [10, 16, 9, 9], [17, 9], [9, 18]]))
 (.cond (.t 42) (.seq (.region [oM 2 (.mov (.c (.int .i64 2)))] none)
 (.ret))
 (.skip))))
 (.region [oT 21 3,
  oM 22 (.bin .add (.t 21) (.c (.int .i64 1))),
  oT 3 22] none))
-- pneumatic/pneumaticref10.Check
def ic26 : IC := .seq (.region [oM 1 (.box (.t 0)),
  oM 2 (.mov (.c (.int .i64 0)))] none)
 (.seq (.seq (.region [oF 4 0 1,
  oN 5 4,
  oM 6 (.bin .lss (.t 5) (.c (.int .i64 0))),
  oT 7 6,
  ⟨(some 8), .faddr 0 (.t 1), some (7, false)⟩,
  ⟨(some 9), .load none (.t 8), some (7, false)⟩,
  ⟨(some 10), .bin .gtr (.t 9) (.c (.int .i64 256)), some (7, false)⟩,
  oM 11 (.pick (.t 7) (.c (.bool true)) (.t 10))] none)
 (.cond (.t 11) (.seq (.region [oM 2 (.mov (.c (.int .i64 2)))] none)
 (.ret))
 (.skip)))
 (.seq (.seq (.region [oF 12 1 1,
  oN 13 12,
  oM 14 (.len false (.t 13)),
  oM 15 (.bin .gtr (.t 14) (.c (.int .i64 4096)))] none)
 (.cond (.t 15) (.seq (.region [oM 2 (.mov (.c (.int .i64 5)))] none)
 (.ret))
 (.skip)))
 (.seq (.seq (.region [oM 3 (.mov (.c (.int .i64 0)))] none)
 (.block 0 (.loop b26_0)))
 (.seq (.region [oM 2 (.mov (.c (.int .i64 0)))] none)
 (.ret)))))
theorem fn26 : env0.fn 26 = some ⟨43, ic26, [.t 2]⟩ := by kernel_rfl
theorem zpw (n : Int) (es : List (Int × Int)) (v : Int) : PF Try.prog 48 [cG n es, .int .i64 v] (.bool (!zfr n v)) := by
 refine zb2 env0_ok fn48 [(0, .agg [.int .i64 n, .vs (cE es)]), (1, .int .i64 v)] (by show 2 ≤ 13; decide) rfl fun w0 N0 => ?_
 unfold ic48
 refine zsr rfl (zdg rfl rfl (za3 rfl (onu ?_)))
 refine zbo [] [(0, 0, [.int .i64 n, .vs (cE es)])] [(1, .int .i64 v), (2, .vptr [.int .i64 n, .vs (cE es)])] rfl (.cons rfl rfl .nil) .nil (.cons rfl (.same rfl) (.cons rfl (.fptr rfl rfl) .nil)) ?_
 unfold zfr
 repeat (first | refine za9 ?_ | refine za1 rfl ?_ | refine za3 rfl ?_)
 refine zao rfl rfl rfl (fun h5 => ?_) fun h5 => ?_
 ·have h5 : v ≥ 0 := of_decide_eq_true h5
  repeat (first | refine zd1 rfl ?_ | refine za3 rfl ?_ | refine zad rfl rfl ?_ | refine zal rfl rfl rfl ?_)
  refine zao rfl rfl rfl (fun h6 => ?_) fun h6 => ?_
  ·have h6 : v < n := of_decide_eq_true h6
   repeat (first | refine za8 ?_ | refine za7 ?_ | refine zaz ?_ | refine za3 rfl ?_ | refine zb3 rfl rfl ?_)
   exact zam ⟨.inr rfl, _, rfl, by rw [decide_eq_false (by omega), decide_eq_false (by omega)]; rfl⟩
  ·have h6 : ¬ v < n := of_decide_eq_false h6
   repeat (first | refine za8 ?_ | refine za7 ?_ | refine zaz ?_ | refine za3 rfl ?_ | refine zb3 rfl rfl ?_)
   exact zam ⟨.inr rfl, _, rfl, by rw [decide_eq_false (by omega), decide_eq_true (by omega)]; rfl⟩
 ·have h5 : ¬ v ≥ 0 := of_decide_eq_false h5
  repeat (first | refine za8 ?_ | refine za7 ?_ | refine zaz ?_ | refine zfd rfl rfl ?_ | refine za3 rfl ?_ | refine zaq rfl rfl ?_)
  exact zam ⟨.inr rfl, _, rfl, by rw [decide_eq_true (by omega)]; rfl⟩
theorem zsm {n : Int} {es : List (Int × Int)} {i : Nat} (h : i < es.length) : znb n (es.drop i) = if zfr n es[i].1 = true then 2 else if zfr n es[i].2 = true then 2 else znb n (es.drop (i + 1)) := by
 rw [y1v h, zlv]
 unfold zj8
 rw [List.any_cons, List.any_cons, List.any_nil, Bool.or_false]
 cases zfr n es[i].1 <;> cases zfr n es[i].2 <;> rfl
theorem zqk {f : FuncId} {args bs : List AV} {v w : AV} {l : List (FuncId × List AV × AV)} (h : bs ≠ args) (k : zfi l f args = some w) : zfi ((f, bs, v) :: l) f args = some w := by
 simp [zfi, h, k]
set_option maxHeartbeats 2000000 in
theorem check35 (n : Int) (es : List (Int × Int)) : PF Try.prog 26 [cG n es] (.int .i64 (zj7 n es)) := by
 have hcl := zdl es
 refine zb2 env0_ok fn26 [(0, .agg [.int .i64 n, .vs (cE es)])] (by show 1 ≤ 43; decide) rfl fun w0 N0 => ?_
 unfold ic26
 refine zsr rfl (zdg rfl rfl (za3 rfl (onu ?_)))
 refine zbo [] [(0, 0, [.int .i64 n, .vs (cE es)])] [(1, .vptr [.int .i64 n, .vs (cE es)])] rfl (.cons rfl rfl .nil) .nil (.cons rfl (.fptr rfl rfl) .nil) ?_
 repeat (first | refine za9 ?_ | refine za1 rfl ?_ | refine zad rfl rfl ?_ | refine zal rfl rfl rfl ?_)
 refine zao rfl rfl rfl (fun h => ?_) fun h => ?_
 ·repeat (first | refine za9 ?_ | refine za1 rfl ?_ | refine za8 ?_ | refine za7 ?_ | refine zd8 rfl ?_ | refine zaz ?_ | refine zav ?_ | refine zfd rfl rfl ?_ | refine za3 rfl ?_ | refine zb3 rfl rfl ?_)
  exact zam ⟨.inr rfl, _, rfl, by rw [zn6 (of_decide_eq_true h)]; rfl⟩
 have h0 : ¬ n < 0 := of_decide_eq_false h
 repeat (first | refine zd1 rfl ?_ | refine za3 rfl ?_ | refine zad rfl rfl ?_ | refine zal rfl rfl rfl ?_)
 refine zao rfl rfl rfl (fun h => ?_) fun h => ?_
 ·repeat (first | refine za9 ?_ | refine za1 rfl ?_ | refine za8 ?_ | refine za7 ?_ | refine zd8 rfl ?_ | refine zaz ?_ | refine zav ?_ | refine za3 rfl ?_ | refine zaq rfl rfl ?_)
  exact zam ⟨.inr rfl, _, rfl, by rw [zn5 (of_decide_eq_true h)]; rfl⟩
 have h1 : ¬ n > 256 := of_decide_eq_false h
 repeat (first | refine za9 ?_ | refine za1 rfl ?_ | refine za8 ?_ | refine za7 ?_ | refine zaf ?_ | refine zc3 rfl ?_ | refine zad rfl rfl ?_ | refine zal rfl rfl rfl ?_ | refine zaq rfl rfl ?_ | refine zcr rfl rfl ?_)
 refine zao rfl rfl rfl (fun h => ?_) fun h => ?_
 ·have h2 : (((cE es).length : Nat) : Int) > 4096 := of_decide_eq_true h
  repeat (first | refine za9 ?_ | refine za1 rfl ?_ | refine za8 ?_ | refine za7 ?_ | refine zd8 rfl ?_ | refine zaz ?_ | refine zav ?_ | refine za3 rfl ?_)
  exact zam ⟨.inr rfl, _, rfl, by rw [zk6 h0 h1 (by omega)]; rfl⟩
 have h2 : ¬ (((cE es).length : Nat) : Int) > 4096 := of_decide_eq_false h
 rw [zs6 h0 h1 (by omega)]
 repeat (first | refine za9 ?_ | refine za1 rfl ?_ | refine za8 ?_ | refine za7 ?_ | refine zah ?_ | refine zaf ?_ | refine zc3 rfl ?_ | refine za3 rfl ?_)
 refine zbn (fun mm S => ∃ i, mm = es.length - i ∧ i ≤ es.length ∧ znb n (es.drop i) = znb n es ∧ S = st 43 [(1, .vptr [.int .i64 n, .vs (cE es)]), (3, .int .i64 (i : Nat))] [] 0 1) es.length
  (zaa (.cons rfl (.cons rfl .nil))) ⟨0, rfl, y19 _, rfl, rfl⟩ ?_
 rintro mm S ⟨i, rfl, hi, hv, rfl⟩
 unfold b26_0
 repeat (first | refine za9 ?_ | refine za1 rfl ?_ | refine za3 rfl ?_ | refine zad rfl rfl ?_ | refine zal rfl rfl rfl ?_ | refine zcr rfl rfl ?_)
 refine zao rfl rfl rfl (fun h3 => ?_) fun h3 => ?_
 ·have hlt : i < es.length := by
   have h4 : ((i : Nat) : Int) < (((cE es).length : Nat) : Int) := of_decide_eq_true h3
   omega
  have w1 : IntKind.wrap .i64 (((i : Nat) : Int) + 1) = ((i + 1 : Nat) : Int) := zab i (by omega)
  have hg := zs2 hlt
  have hs := zsm (n := n) hlt
  have pa := zpw n es es[i].1
  have pb := zpw n es es[i].2
  generalize es[i].1 = a at *
  generalize es[i].2 = b at *
  repeat (first | refine za9 ?_ | refine za8 ?_ | refine za7 ?_ | refine zah ?_ | refine zaf ?_ | refine zd8 rfl ?_)
  refine zo9 env0_ok [(48, [cG n es, .int .i64 a], .bool (!zfr n a)), (48, [cG n es, .int .i64 b], .bool (!zfr n b))] (fun x hx => by
   rcases y0i.1 hx with rfl | hx
   ·exact pa
   obtain rfl := y0h.1 hx
   exact pb) (fun f => Nat.beq f 48) rfl rfl rfl ?_
  have lkb : zfi [(48, [cG n es, .int .i64 a], .bool (!zfr n a)), (48, [cG n es, .int .i64 b], .bool (!zfr n b))] 48 [cG n es, .int .i64 b] = some (.bool (!zfr n b)) := by
   by_cases hab : a = b
   ·subst hab
    exact ze7
   ·exact zqk (fun e => hab (by simpa using e)) ze7
  repeat (first | refine za3 rfl ?_ | refine zad rfl rfl ?_ | refine zb8 rfl rfl rfl rfl ?_ | refine zal rfl rfl rfl ?_ | refine zba rfl rfl (by omega) (by assumption) rfl ?_)
  refine zb4 rfl rfl ze7 noC ?_
  cases ea : zfr n a with
  | true =>
   rw [ea, if_pos rfl, hv] at hs
   repeat (first | refine za9 ?_ | refine za1 rfl ?_ | refine za8 ?_ | refine za7 ?_ | refine zd8 rfl ?_ | refine zaz ?_ | refine zav ?_ | refine zc6 ?_ | refine zfd rfl rfl ?_ | refine za3 rfl ?_ | refine zb3 rfl rfl ?_ | refine o_un rfl rfl ?_)
   exact zam ⟨.inr rfl, _, rfl, by rw [hs]; rfl⟩
  | false =>
   rw [ea, if_neg y2o] at hs
   rw [ea] at lkb
   repeat (first | refine zd1 rfl ?_ | refine za3 rfl ?_ | refine zad rfl rfl ?_ | refine zb8 rfl rfl rfl rfl ?_ | refine zal rfl rfl rfl ?_ | refine o_un rfl rfl ?_ | refine zba rfl rfl (by omega) (by assumption) rfl ?_)
   refine zb4 rfl rfl lkb noC ?_
   cases eb : zfr n b with
   | true =>
    rw [eb, if_pos rfl, hv] at hs
    repeat (first | refine za9 ?_ | refine za1 rfl ?_ | refine za8 ?_ | refine za7 ?_ | refine zd8 rfl ?_ | refine zaz ?_ | refine zav ?_ | refine zc6 ?_ | refine zd1 rfl ?_ | refine za3 rfl ?_ | refine zaq rfl rfl ?_ | refine o_un rfl rfl ?_)
    exact zam ⟨.inr rfl, _, rfl, by rw [hs]; rfl⟩
   | false =>
    rw [eb, if_neg y2o, hv] at hs
    repeat (first | refine za1 rfl ?_ | refine za8 ?_ | refine za7 ?_ | refine zbm ?_ | refine zaf ?_ | refine zc3 rfl ?_ | refine zd1 rfl ?_ | refine za3 rfl ?_ | refine zaq rfl rfl ?_ | refine o_un rfl rfl ?_ | refine zb5 (op := .add) rfl rfl rfl ?_)
    rw [w1]
    exact zat (show es.length - (i + 1) < es.length - i by omega) (zaa (.cons rfl (.cons rfl .nil))) ⟨i + 1, rfl, hlt, hs.symm, rfl⟩
 ·have hie : i = es.length := by
   have h4 : ¬ ((i : Nat) : Int) < (((cE es).length : Nat) : Int) := of_decide_eq_false h3
   omega
  rw [hie, List.drop_length] at hv
  repeat (first | refine za8 ?_ | refine za7 ?_ | refine zc3 rfl ?_ | refine zbw ?_ | refine zak ?_)
  refine zdb ?_
  repeat (first | refine za9 ?_ | refine za1 rfl ?_ | refine za8 ?_ | refine za7 ?_ | refine zaz ?_ | refine zbu ?_ | refine za3 rfl ?_)
  exact zam ⟨.inr rfl, _, rfl, by rw [← hv]; rfl⟩
def zig (n : Int) (es : List (Int × Int)) (l : List Int) : Int := if zj7 n es = 0 then zj8 n l else zj7 n es
end Go.Proofs.Ytfbeableaihooaa
namespace Go.Proofs
open Go.Shelf
def Try.lays191_ren : Go.Shelf.Ren := ⟨fun | 191 => 66 | 189 => 77 | 125 => 81 | 257 => 80 | 128 => 91 | 129 => 92 | 294 => 82 | 295 => 83 | 296 => 84 | 297 => 85 | 298 => 86 | 299 => 87 | 216 => 88 | 300 => 89 | 301 => 90 | 328 => 93 | 329 => 94 | 330 => 95 | 331 => 96 | 332 => 97 | 215 => 98 | 343 => 99 | n => n, fun | 28 => 34 | 0 => 0 | 3 => 3 | 46 => 114 | 51 => 117 | 53 => 45 | 4 => 4 | 183 => 126 | 182 => 125 | 131 => 110 | 5 => 5 | 9 => 9 | 218 => 133 | 222 => 137 | 228 => 139 | 229 => 140 | n => n, fun | n => n⟩
theorem Try.lays191 : Go.Proofs.Lays.n191 Try.prog Try.lays191_ren := {
 mixed := by kernel_rfl
 f125 := Try.func81.trans (congrArg some (by kernel_rfl))
 f128 := Try.func91.trans (congrArg some (by kernel_rfl))
 f129 := Try.func92.trans (congrArg some (by kernel_rfl))
 f189 := Try.func77.trans (congrArg some (by kernel_rfl))
 f191 := Try.func66.trans (congrArg some (by kernel_rfl))
 f215 := Try.func98.trans (congrArg some (by kernel_rfl))
 f216 := Try.func88.trans (congrArg some (by kernel_rfl))
 f257 := Try.func80.trans (congrArg some (by kernel_rfl))
 f294 := Try.func82.trans (congrArg some (by kernel_rfl))
 f295 := Try.func83.trans (congrArg some (by kernel_rfl))
 f296 := Try.func84.trans (congrArg some (by kernel_rfl))
 f297 := Try.func85.trans (congrArg some (by kernel_rfl))
 f298 := Try.func86.trans (congrArg some (by kernel_rfl))
 f299 := Try.func87.trans (congrArg some (by kernel_rfl))
 f300 := Try.func89.trans (congrArg some (by kernel_rfl))
 f301 := Try.func90.trans (congrArg some (by kernel_rfl))
 f328 := Try.func93.trans (congrArg some (by kernel_rfl))
 f329 := Try.func94.trans (congrArg some (by kernel_rfl))
 f330 := Try.func95.trans (congrArg some (by kernel_rfl))
 f331 := Try.func96.trans (congrArg some (by kernel_rfl))
 f332 := Try.func97.trans (congrArg some (by kernel_rfl))
 f343 := Try.func99.trans (congrArg some (by kernel_rfl))
 t0 := Try.underlying0
 a0 := Try.isAgg0
 z0 := Try.sizeOf0
 v0 := Try.zeroValue0
 t3 := Try.underlying3
 a3 := Try.isAgg3
 z3 := Try.sizeOf3
 v3 := Try.zeroValue3
 t4 := Try.underlying4
 a4 := Try.isAgg4
 z4 := Try.sizeOf4
 v4 := Try.zeroValue4
 t5 := Try.underlying5
 a5 := Try.isAgg5
 z5 := Try.sizeOf5
 v5 := Try.zeroValue5
 t9 := Try.underlying9
 a9 := Try.isAgg9
 z9 := Try.sizeOf9
 v9 := Try.zeroValue9
 t28 := Try.underlying34
 a28 := Try.isAgg34
 z28 := Try.sizeOf34
 v28 := Try.zeroValue34
 t46 := Try.underlying114
 a46 := Try.isAgg114
 z46 := Try.sizeOf114
 v46 := Try.zeroValue114
 t51 := Try.underlying117
 a51 := Try.isAgg117
 z51 := Try.sizeOf117
 v51 := Try.zeroValue117
 t53 := Try.underlying45
 a53 := Try.isAgg45
 z53 := Try.sizeOf45
 v53 := Try.zeroValue45
 t131 := Try.underlying110
 a131 := Try.isAgg110
 z131 := Try.sizeOf110
 v131 := Try.zeroValue110
 t182 := Try.underlying125
 a182 := Try.isAgg125
 z182 := Try.sizeOf125
 v182 := Try.zeroValue125
 t183 := Try.underlying126
 a183 := Try.isAgg126
 z183 := Try.sizeOf126
 v183 := Try.zeroValue126
 t218 := Try.underlying133
 a218 := Try.isAgg133
 z218 := Try.sizeOf133
 v218 := Try.zeroValue133
 t222 := Try.underlying137
 a222 := Try.isAgg137
 z222 := Try.sizeOf137
 v222 := Try.zeroValue137
 t228 := Try.underlying139
 a228 := Try.isAgg139
 z228 := Try.sizeOf139
 v228 := Try.zeroValue139
 t229 := Try.underlying140
 a229 := Try.isAgg140
 z229 := Try.sizeOf140
 v229 := Try.zeroValue140 }
open Go.Sort Go.RowKit in
theorem Try.sort_Ints (blk off cap : Nat) (zs : List Int) (w : World) (hH : Holds (Value.int .i64) w blk off zs.toArray) (hblk : blk < w.heap.size) (hsz : zs.length < 4611686018427387904) :
  Calls Try.prog 66 #[.slice (some ⟨blk, off, none⟩) zs.length cap] w fun e w' =>
   e = .returned (.tuple #[]) ∧ ∃ n os, w' = grow (putRow (Value.int .i64) (Sort.ahead w n) blk off (zs.mergeSort fun x y => decide (x ≤ y)).toArray) os := Any.sort_Ints Try.lays191 blk off cap zs w hH hblk hsz
def Try.laysNm220_ren : Go.Shelf.Ren := ⟨fun | 20 => 67 | n => n, fun | 22 => 34 | 3 => 3 | 4 => 4 | 0 => 0 | n => n, fun | n => n⟩
theorem Try.laysNm220 : Go.Proofs.Lays2.n20 Try.prog Try.laysNm220_ren := {
 mixed := by kernel_rfl
 f20 := Try.func67.trans (congrArg some (by kernel_rfl))
 t0 := Try.underlying0
 a0 := Try.isAgg0
 z0 := Try.sizeOf0
 v0 := Try.zeroValue0
 t3 := Try.underlying3
 a3 := Try.isAgg3
 z3 := Try.sizeOf3
 v3 := Try.zeroValue3
 t4 := Try.underlying4
 a4 := Try.isAgg4
 z4 := Try.sizeOf4
 v4 := Try.zeroValue4
 t22 := Try.underlying34
 a22 := Try.isAgg34
 z22 := Try.sizeOf34
 v22 := Try.zeroValue34
 i3 := by kernel_rfl }
open Go.RowKit Go.Lib Go.Sort in
theorem Try.slices_Compact_int (blk off cap : Nat) (zs : List Int) (w : World) (hH : Holds (Value.int .i64) w blk off zs.toArray) (hsz : zs.length ≤ 9223372036854775807) (hcap : zs.length ≤ cap) :
  Calls Try.prog 67 #[.slice (some ⟨blk, off, none⟩) zs.length cap] w fun e w' => e = .returned (.slice (some ⟨blk, off, none⟩) (Lib.compact zs).length cap) ∧ ∃ q, w' = putRow (Value.int .i64) (Sort.ahead w q) blk off (Lib.compact zs ++ List.replicate (zs.length - (Lib.compact zs).length) 0).toArray := Any.slices_Compact_int Try.laysNm220 blk off cap zs w hH hsz hcap
namespace Ytfbeableaihooaa
open Go Go.Am Go.RowKit
theorem ent64 : Ent Try.prog 66 := zso Try.func66 rfl (by kernel_rfl)
theorem ent65 : Ent Try.prog 67 := zso Try.func67 rfl (by kernel_rfl)
theorem sorts64 : Sorts Try.prog 66 := fun blk off cap zs w hH hb hz => Try.sort_Ints blk off cap zs w hH hb hz
theorem cpts65 : Cpts Try.prog 67 := fun blk off cap zs w hH hz hc => Try.slices_Compact_int blk off cap zs w hH hz hc
end Ytfbeableaihooaa
end Go.Proofs
namespace Go.Proofs.Ytfbeableaihooaa
open Go Go.Am
def b42_0 : IC := .seq (.region [oM 14 (.bin .lss (.t 13) (.t 12))] none)
 (.seq (.cond (.t 14) (.skip)
 (.exit 0))
 (.seq (.block 1 (.seq (.region [oM 15 (.idxs 2 (.t 11) (.t 13)),
  oL 16 2 15,
  oM 5 (.alloc [.int .i64 0, .int .i64 0]),
  ⟨none, .store 2 (.t 5) (.t 16), none⟩] none)
 (.region [oT 17 3,
  oF 18 0 5,
  oN 19 18,
  oT 20 3,
  oF 21 0 5,
  oN 22 21,
  oM 23 (.idxs 1 (.t 20) (.t 22)),
  oN 24 23,
  oF 25 1 5,
  oN 26 25,
  oM 27 (.bslice 1 1 [.int .i64 0] [(0, 1, (.t 26))]),
  oM 28 (.append 1 8 [.int .i64 0] (.t 24) (.t 27)),
  oM 29 (.idxs 1 (.t 17) (.t 19)),
  ⟨none, .store 1 (.t 29) (.t 28), none⟩] (some [[], [], [1], [], [], [4], [3, 5], [6], [], [8], [9], [7, 10], [0, 2, 0, 1, 2, 3, 4, 5, 6, 7, 8, 9, 10, 11], [12, 11, 11, 0, 1, 2, 3, 4, 5, 6, 7, 8, 9, 10, 11]]))))
 (.region [oM 30 (.bin .add (.t 13) (.c (.int .i64 1))),
  oT 13 30] none)))
def b42_2 : IC := .seq (.region [oM 34 (.bin .lss (.t 33) (.t 32))] none)
 (.seq (.cond (.t 34) (.skip)
 (.exit 2))
 (.seq (.block 3 (.seq (.region [oT 35 33,
  oT 6 35] none)
 (.seq (.region [oT 36 3,
  oT 37 6,
  oM 38 (.idxs 1 (.t 36) (.t 37)),
  oN 39 38,
  oM 40 (.call (.c (.fn 66 [] [])) [(.t 39)])] none)
 (.region [oT 41 3,
  oT 42 6,
  oT 43 3,
  oT 44 6,
  oM 45 (.idxs 1 (.t 43) (.t 44)),
  oN 46 45,
  oM 47 (.call (.c (.fn 67 [] [])) [(.t 46)]),
  oM 48 (.idxs 1 (.t 41) (.t 42)),
  ⟨none, .store 1 (.t 48) (.t 47), none⟩] none))))
 (.region [oM 49 (.bin .add (.t 33) (.c (.int .i64 1))),
  oT 33 49] none)))
-- pneumatic/digraph.joined
def ic42 : IC := .seq (.region [oM 1 (.box (.t 0)),
  oM 2 (.mov (.c (.nils)))] none)
 (.seq (.region [oF 7 0 1,
  oN 8 7,
  oM 9 (.mkslice 1 24 [.nils] (.t 8) (.t 8)),
  oT 3 9] none)
 (.seq (.seq (.region [oF 10 1 1,
  oN 11 10,
  oM 12 (.len false (.t 11)),
  oM 13 (.mov (.c (.int .i64 0)))] none)
 (.block 0 (.loop b42_0)))
 (.seq (.seq (.region [oT 31 3,
  oM 32 (.len false (.t 31)),
  oM 33 (.mov (.c (.int .i64 0)))] none)
 (.block 2 (.loop b42_2)))
 (.seq (.region [oT 50 3,
  oT 2 50] none)
 (.ret)))))
theorem fn42 : env0.fn 42 = some ⟨51, ic42, [.t 2]⟩ := by kernel_rfl
def reg45i : List Opr := [oT 17 3, oF 18 0 5, oN 19 18, oT 20 3, oF 21 0 5, oN 22 21, oM 23 (.idxs 1 (.t 20) (.t 22)), oN 24 23, oF 25 1 5, oN 26 25, oM 27 (.bslice 1 1 [.int .i64 0] [(0, 1, (.t 26))]), oM 28 (.append 1 8 [.int .i64 0] (.t 24) (.t 27)), oM 29 (.idxs 1 (.t 17) (.t 19)), ⟨none, .store 1 (.t 29) (.t 28), none⟩]
def reg45p : List (List Nat) := [[], [], [1], [], [], [4], [3, 5], [6], [], [8], [9], [7, 10], [0, 2, 0, 1, 2, 3, 4, 5, 6, 7, 8, 9, 10, 11], [12, 11, 11, 0, 1, 2, 3, 4, 5, 6, 7, 8, 9, 10, 11]]
structure Rw (m : Nat) (L : Nat → List Int) (nz : Nat → Bool) (cv : Nat → AV) (C : Nat → List Int) (ids sps : Nat → Nat) : Prop where
 some : ∀ v, v < m → nz v = true → L v ≠ [] ∧ C v = L v ∧ cv v = .ms (ids v) (sps v) 1 0 (L v).length none
 none : ∀ v, v < m → nz v = false → L v = [] ∧ cv v = .nils
theorem zji {d : Nat} {v : AV} {l l' : List (Nat × AV)} (h : KeepA l l') (hd : ∀ x ∈ l', x.1 ≠ d) : KeepA ((d, v) :: l) l' := by
 induction h with
 | nil => exact .nil
 | @cons e u l2 h _ ih =>
  refine .cons ?_ (ih fun x hx => hd x (y04 _ hx))
  have := hd (e, u) (y06 ..)
  rw [zck]
  cases hb : Nat.beq d e with
  | true => exact absurd (y0m hb).symm this
  | false => exact h
set_option maxHeartbeats 2000000 in
theorem reg45 {w0 : World} {N0 : Nat} {k : List Fr} {Q : Exit → AS → Prop} {y : IC} {m : Nat} {L : Nat → List Int} {nz : Nat → Bool} {cv : Nat → AV} {C : Nat → List Int} {ids sps : Nat → Nat} {hp : List (Nat × Nat × AObj)} {nx ck j s5 a b : Nat} {l : List (Nat × AV)}
  (hJ : Jn m nz cv C ids sps hp nx) (hR : Rw m L nz cv C ids sps) (k5 : Am.look j hp = some (s5, .cells [.int .i64 (a : Nat), .int .i64 (b : Nat)])) (hjn : j < nx) (hjd : ∀ v, v < m → nz v = true → ids v ≠ j) (ha : a < m) (hL : (L a).length ≤ 100000)
  (h3 : zck 3 l = some (.ms 0 1 1 0 m (some m))) (h5 : zck 5 l = some (.mptr j s5 0)) {l' : List (Nat × AV)} (hk : KeepA l l') (hd : ∀ x ∈ l', x.1 < 17)
  (fin : ∀ hp' nx' ck' nz' cv' C' ids' sps', Jn m nz' cv' C' ids' sps' hp' nx' → Rw m (upd L a (L a ++ [((b : Nat) : Int)])) nz' cv' C' ids' sps' → Zm Try.prog w0 N0 none y (st 51 l' hp' nx' ck') k Q) :
  Zm Try.prog w0 N0 none (.region reg45i (some reg45p)) (st 51 l hp nx ck) (.blk 1 :: .seq y :: k) Q := by
 have ez : ∀ o : Nat, 0 + ((o : Nat) : Int).toNat * 1 = o := fun o => by simp
 have hld0 : (fun i => Nat.beq i 0 || Nat.beq i j) 0 = true := rfl
 have hldj : (fun i => Nat.beq i 0 || Nat.beq i j) j = true := by show (Nat.beq j 0 || Nat.beq j j) = true; rw [y23, Bool.or_true]
 refine z_cut env0_ok 12 [] (fun x hx => by cases hx) (fun _ => false) (fun i => Nat.beq i 0 || Nat.beq i j) (fun i => !(Nat.beq i 0 || Nat.beq i j)) (fun i h1 h2 => by rw [h1] at h2; cases h2) rfl rfl rfl rfl ?_
 show Om _ _ _ _ _ [_, _, _, _, _, _, _, _, _, _, _, _] _ _ _
 refine za3 h3 ?_
 refine zae h5 ?_
 refine zas (id := j) (sp := s5) (off := 0) rfl k5 hjn rfl ?_ (zlf rfl hldj)
 refine za3 h3 ?_
 refine zae h5 ?_
 refine zas (id := j) (sp := s5) (off := 0) rfl k5 hjn rfl ?_ (zlf rfl hldj)
 refine zc5 rfl rfl (y15 a) (y18.2 ha) ?_
 rw [ez]
 refine zas (id := 0) (sp := 1) (off := a) rfl hJ.top hJ.nx0 (hJ.get ha) ?_ (zlf rfl hld0)
 refine zae h5 ?_
 refine zas (id := j) (sp := s5) (off := 0 + 1) rfl k5 hjn rfl ?_ (zlf rfl hldj)
 refine zc1 rfl rfl ?_ rfl
 have J1 := hJ.fresh ck (.cells [.int .i64 (b : Nat)])
 have hel : ∀ l : List (Nat × AV), (st 51 l ((nx, ck, AObj.cells [.int .i64 (b : Nat)]) :: hp) (nx + 1) (ck + 1) []).elems 1 (.ms nx ck 1 0 1 (some 1)) = some [[.int .i64 (b : Nat)]] := fun l => zd3 (xs := [[.int .i64 (b : Nat)]]) (ys := []) zai rfl fun x hx => by obtain rfl := y0h.1 hx; rfl
 cases hz : nz a with
 | false =>
  obtain ⟨e1, e2⟩ := hR.none a ha hz
  have J2 := (J1.add a (ck + 1) [((b : Nat) : Int)]).cset a (.ms (nx + 1) (ck + 1) 1 0 1 none)
  refine zkw (v := .ms (nx + 1) (ck + 1) 1 0 1 none) (hp' := (nx + 1, ck + 1, .cells [.int .i64 (b : Nat)]) :: (nx, ck, .cells [.int .i64 (b : Nat)]) :: hp) (nx' := nx + 1 + 1) (ck' := ck + 1 + 1) (congrArg some e2) rfl (hel []) rfl ?_ (znx (congrArg some e2))
  refine za8 (zam ⟨rfl, fun rd => ?_⟩)
  refine AnyF.one 12 rfl (zdd (i := 12) rfl rfl (zid rfl rfl (y15 a) (y18.2 ha)) ?_)
  rw [ez]
  refine AnyF.one 13 rfl (zgv (i := 13) rfl (zeh (id := 0) (sp := 1) (off := a) rfl rfl rfl rfl (J1.add a (ck + 1) [((b : Nat) : Int)]).top (y21 (by simp; omega)) rfl) ?_)
  rw [zf2 (by simp; exact ha)]
  refine AnyF.fin rfl (Um.ok (zbm (za7 (z_sub (zaa (l' := l') ?_) (fin _ _ _ _ _ _ _ _ J2 ?_)))))
  ·repeat (refine zji ?_ (fun x hx => by have := hd x hx; omega))
   exact hk
  ·constructor
   ·intro v hv hz'
    by_cases e : v = a
    ·subst e
     rw [zac, zac, zac, zac, zac, e1]
     exact ⟨List.cons_ne_nil _ _, rfl, rfl⟩
    ·rw [za6 _ _ e] at hz'
     rw [za6 _ _ e, za6 _ _ e, za6 _ _ e, za6 _ _ e, za6 _ _ e]
     exact hR.some v hv hz'
   ·intro v hv hz'
    by_cases e : v = a
    ·subst e
     rw [zac] at hz'
     cases hz'
    ·rw [za6 _ _ e] at hz'
     rw [za6 _ _ e, za6 _ _ e]
     exact hR.none v hv hz'
 | true =>
  obtain ⟨_, e1, e2⟩ := hR.some a ha hz
  have hp9 := hJ.pos a ha hz
  have hja := hjd a ha hz
  have J2 := (J1.block ha hz (ck + 1) (L a ++ [((b : Nat) : Int)])).cset a (.ms (ids a) (ck + 1) 1 0 ((L a).length + 1) none)
  have hsd : (fun i => !(Nat.beq i 0 || Nat.beq i j)) (ids a) = true := by
   have h1 : Nat.beq (ids a) 0 = false := by
    cases hb : Nat.beq (ids a) 0 with
    | false => rfl
    | true => have := y0m hb; omega
   have h2 : Nat.beq (ids a) j = false := by
    cases hb : Nat.beq (ids a) j with
    | false => rfl
    | true => exact absurd (y0m hb) hja
   show (!(Nat.beq (ids a) 0 || Nat.beq (ids a) j)) = true
   rw [h1, h2]
   rfl
  have hc := J1.cell a ha hz
  rw [e1] at hc
  have ap := zic (n := 51) (l := (27, .ms nx ck 1 0 1 (some 1)) :: (26, .int .i64 (b : Nat)) :: (25, .mptr j s5 (0 + 1)) :: (24, cv a) :: (23, .mptr 0 1 a) :: (22, .int .i64 (a : Nat)) :: (21, .mptr j s5 (0 + 0)) :: (20, .ms 0 1 1 0 m (some m)) :: (19, .int .i64 (a : Nat)) :: (18, .mptr j s5 (0 + 0)) :: (17, .ms 0 1 1 0 m (some m)) :: l) (hp := (nx, ck, .cells [.int .i64 (b : Nat)]) :: hp) (nx := nx + 1) (ck := ck + 1) (mk := []) (sz := 1) (bytes := 8) (z := [.int .i64 0]) (s := .t 24) (x := .t 27) [[.int .i64 (b : Nat)]] (id := ids a) (sp := sps a) (len := (L a).length) (congrArg some e2) rfl (hel _) (y2m 0) rfl (by decide) hc (by rw [y0e, Nat.mul_one]) (by show (L a).length + 1 ≤ 1048576; omega)
  have e0 : (L a).map (AV.int .i64) ++ [[AV.int .i64 (b : Nat)]].flatten = (L a ++ [((b : Nat) : Int)]).map (AV.int .i64) := by rw [y27]; rfl
  rw [e0] at ap
  refine zel ap ?_ (apOk (congrArg some e2) hsd)
  refine za8 (zam ⟨rfl, fun rd => ?_⟩)
  refine AnyF.one 12 rfl (zdd (i := 12) rfl rfl (zid rfl rfl (y15 a) (y18.2 ha)) ?_)
  rw [ez]
  refine AnyF.one 13 rfl (zgv (i := 13) rfl (zeh (id := 0) (sp := 1) (off := a) rfl rfl rfl rfl (J1.block ha hz (ck + 1) (L a ++ [((b : Nat) : Int)])).top (y21 (by simp; omega)) rfl) ?_)
  rw [zf2 (by simp; exact ha)]
  refine AnyF.fin rfl (Um.ok (zbm (za7 (z_sub (zaa (l' := l') ?_) (fin _ _ _ _ _ _ _ _ J2 ?_)))))
  ·repeat (refine zji ?_ (fun x hx => by have := hd x hx; omega))
   exact hk
  ·constructor
   ·intro v hv hz'
    by_cases e : v = a
    ·subst e
     rw [zac, zac, zac, zac, y0p]
     exact ⟨by simp, rfl, rfl⟩
    ·rw [za6 _ _ e, za6 _ _ e, za6 _ _ e, za6 _ _ e]
     exact hR.some v hv hz'
   ·intro v hv hz'
    by_cases e : v = a
    ·subst e
     rw [hz] at hz'
     cases hz'
    ·rw [za6 _ _ e, za6 _ _ e]
     exact hR.none v hv hz'
end Go.Proofs.Ytfbeableaihooaa
namespace Go.Proofs.Ytfbeableaihooaa
open Go Go.Am
def tabS : Tab := [(66, [([.vs []], .tup [])]), (67, [([.vs []], .vs [])])]
theorem zv4 : TabOk Try.prog tabS := TabOk.of_run (env0_ok.tab TabOk.nil (pure := [])) (n := 60) (by kernel_rfl)
theorem ints64 : PF Try.prog 66 [.vs []] (.tup []) := zv4 _ (y06 ..) _ (y06 ..)
theorem zs9 : PF Try.prog 67 [.vs []] (.vs []) := zv4 _ (y04 _ (y06 ..)) _ (y06 ..)
end Go.Proofs.Ytfbeableaihooaa
namespace Go.Proofs.Ytfbeableaihooaa
open Go Go.Am
def srtc (l : List Int) : List Int := cps (srt l) ++ List.replicate ((srt l).length - (cps (srt l)).length) 0
structure Rs (m : Nat) (L : Nat → List Int) (i : Nat) (nz : Nat → Bool) (cv : Nat → AV) (C : Nat → List Int) (ids sps : Nat → Nat) : Prop where
 some : ∀ v, v < m → nz v = true → L v ≠ [] ∧ C v = (if v < i then srtc (L v) else L v) ∧ cv v = .ms (ids v) (sps v) 1 0 (if v < i then (cps (srt (L v))).length else (L v).length) none
 none : ∀ v, v < m → nz v = false → L v = [] ∧ cv v = (if v < i then .vs [] else .nils)
theorem Rs.start {m : Nat} {L : Nat → List Int} {nz : Nat → Bool} {cv : Nat → AV} {C : Nat → List Int} {ids sps : Nat → Nat} (h : Rw m L nz cv C ids sps) : Rs m L 0 nz cv C ids sps :=
 ⟨fun v hv hz => by rw [if_neg (y2g v), if_neg (y2g v)]; exact h.some v hv hz, fun v hv hz => by rw [if_neg (y2g v)]; exact h.none v hv hz⟩
theorem zql {α : Type} {v i : Nat} (h : v ≠ i) (a b : α) : (if v < i + 1 then a else b) = if v < i then a else b := by
 by_cases e : v < i
 ·rw [if_pos e, if_pos (by omega)]
 ·rw [if_neg e, if_neg (by omega)]
def t45 (m : Nat) (i : Nat) : List (Nat × AV) := [(3, .ms 0 1 1 0 m (some m)), (32, .int .i64 (m : Nat)), (33, .int .i64 (i : Nat))]
set_option maxHeartbeats 2000000 in
theorem sort45 {w0 : World} {N0 : Nat} {m : Nat} {L : Nat → List Int} {i : Nat} {nz : Nat → Bool} {cv : Nat → AV} {C : Nat → List Int} {ids sps : Nat → Nat} {hp : List (Nat × Nat × AObj)} {nx ck : Nat} {Q : Exit → AS → Prop} (hm : m ≤ 256)
  (hJ : Jn m nz cv C ids sps hp nx) (hR : Rs m L i nz cv C ids sps) (hi : i < m) (hL : (L i).length ≤ 100000)
  (fin : ∀ l' hp' cv' C' sps', KeepA l' (t45 m (i + 1)) → Jn m nz cv' C' ids sps' hp' nx → Rs m L (i + 1) nz cv' C' ids sps' → Um Try.prog w0 N0 none .normal (st 51 l' hp' nx ck) [] Q) :
  Zm Try.prog w0 N0 none b42_2 (st 51 (t45 m i) hp nx ck) [] Q := by
 have ez : ∀ o : Nat, 0 + ((o : Nat) : Int).toNat * 1 = o := fun o => by simp
 have w1 : IntKind.wrap .i64 (((i : Nat) : Int) + 1) = ((i + 1 : Nat) : Int) := zab i (by omega)
 have hidx : ((i : Nat) : Int) < ((m : Nat) : Int) := y18.2 hi
 unfold b42_2 t45
 repeat (first | refine za9 ?_ | refine za1 rfl ?_)
 refine zmc rfl rfl (by show some (AV.bool (decide (((i : Nat) : Int) < ((m : Nat) : Int)))) = _; rw [decide_eq_true hidx]) ?_
 repeat (first | refine za9 ?_ | refine za1 rfl ?_ | refine za8 ?_ | refine za7 ?_ | refine zah ?_ | refine zaf ?_ | refine zd8 rfl ?_ | refine za3 rfl ?_ | refine zc5 rfl rfl (by omega) (by omega) ?_)
 rw [ez]
 refine zas (id := 0) (sp := 1) (off := i) rfl hJ.top hJ.nx0 (hJ.get hi) ?_
 cases hz : nz i with
 | true =>
  obtain ⟨e0, e1, e2⟩ := hR.some i hi hz
  rw [if_neg (Nat.lt_irrefl i)] at e1 e2
  have hc := hJ.cell i hi hz
  rw [e1] at hc
  have hne2 : srt (L i) ≠ [] := fun e => e0 (by have := zl6 (L i); rw [e] at this; exact y1r.1 this.symm)
  have J1 := hJ.block hi hz (sps i) (srt (L i))
  have hc2 := J1.cell i hi hz
  rw [zac, zac] at hc2
  have J2 := J1.block hi hz (sps i) (srtc (L i))
  have J3 := J2.cset i (.ms (ids i) (sps i) 1 0 (cps (srt (L i))).length none)
  refine zp8 _ rfl (congrArg (fun v => some [v]) e2) (zfs (FT_sort (cap := none) (zs := L i) ent64 sorts64 e0 (by omega) hc)) (fun v H hF => fun _ h => absurd h y0f) fun v H hF => ?_
  obtain ⟨rfl, rfl⟩ := hF
  repeat (first | refine za1 rfl ?_ | refine za8 ?_ | refine za7 ?_ | refine za3 rfl ?_ | refine zc5 rfl rfl (by omega) (by omega) ?_)
  rw [ez]
  refine zas (id := 0) (sp := 1) (off := i) rfl J1.top J1.nx0 (J1.get hi) ?_
  refine zp8 _ rfl (congrArg (fun v => some [v]) (e2.trans (by rw [← zl6 (L i)]))) (zfs (zq2 (cap := none) (zs := srt (L i)) ent65 cpts65 hne2 (by rw [zl6]; omega) hc2)) (fun v H hF => fun _ h => absurd h y0f) fun v H hF => ?_
  obtain ⟨rfl, rfl⟩ := hF
  repeat (first | refine zc5 rfl rfl (by omega) (by omega) ?_)
  rw [ez]
  refine zci (id := 0) (sp := 1) (off := i) rfl rfl rfl J2.top (by simp; exact hi) rfl ?_
  repeat (first | refine za1 rfl ?_ | refine za8 ?_ | refine za7 ?_ | refine zbm ?_ | refine za3 rfl ?_ | refine zb5 (op := .add) rfl rfl rfl ?_)
  rw [w1]
  refine fin _ _ _ _ _ ?_ J3 ?_
  ·exact .cons rfl (.cons rfl (.cons rfl .nil))
  ·constructor
   ·intro v hv hzv
    by_cases e : v = i
    ·subst e
     rw [zac, zac, zac, if_pos (y0o v), if_pos (y0o v)]
     exact ⟨e0, rfl, rfl⟩
    ·rw [za6 _ _ e, za6 _ _ e, za6 _ _ e, za6 _ _ e, za6 _ _ e]
     rw [zql e, zql e]
     exact hR.some v hv hzv
   ·intro v hv hzv
    have e : v ≠ i := fun e => by rw [e, hz] at hzv; cases hzv
    rw [za6 _ _ e, zql e]
    exact hR.none v hv hzv
 | false =>
  obtain ⟨e0, e2⟩ := hR.none i hi hz
  rw [if_neg (Nat.lt_irrefl i)] at e2
  have J3 := hJ.cset i (.vs [])
  refine zb4 (vs := [.nils]) (congrArg (fun v => some [v]) e2) rfl ints64 noC ?_
  repeat (first | refine za1 rfl ?_ | refine za8 ?_ | refine za7 ?_ | refine za3 rfl ?_ | refine zc5 rfl rfl (by omega) (by omega) ?_)
  rw [ez]
  refine zas (id := 0) (sp := 1) (off := i) rfl hJ.top hJ.nx0 (hJ.get hi) ?_
  refine zb4 (vs := [.nils]) (congrArg (fun v => some [v]) e2) rfl zs9 noC ?_
  repeat (first | refine zc5 rfl rfl (by omega) (by omega) ?_)
  rw [ez]
  refine zci (id := 0) (sp := 1) (off := i) rfl rfl rfl hJ.top (by simp; exact hi) rfl ?_
  repeat (first | refine za1 rfl ?_ | refine za8 ?_ | refine za7 ?_ | refine zbm ?_ | refine za3 rfl ?_ | refine zb5 (op := .add) rfl rfl rfl ?_)
  rw [w1]
  refine fin _ _ _ _ _ ?_ J3 ?_
  ·exact .cons rfl (.cons rfl (.cons rfl .nil))
  ·constructor
   ·intro v hv hzv
    have e : v ≠ i := fun e => by rw [e, hz] at hzv; cases hzv
    rw [za6 _ _ e, zql e, zql e]
    exact hR.some v hv hzv
   ·intro v hv hzv
    by_cases e : v = i
    ·subst e
     rw [zac, if_pos (y0o v)]
     exact ⟨e0, rfl⟩
    ·rw [za6 _ _ e, zql e]
     exact hR.none v hv hzv
theorem zm4 {f : Nat → AV} (h : ∀ v, hasM (f v) = false) : ∀ l : List Nat, hasM.hasML (l.map f) = false
 | [] => rfl
 | v :: l => by
  rw [y16]
  show (hasM (f v) || hasM.hasML (l.map f)) = false
  rw [h v, zm4 h l]
  rfl
theorem zui (E : List (Nat × Nat)) (v : Nat) : (raw E v).length ≤ E.length := by
 unfold raw
 rw [y0e]
 exact y20 ..
set_option maxHeartbeats 2000000 in
theorem zp0 (m : Nat) (hm : m ≤ 256) (E : List (Nat × Nat)) (hE : E.length ≤ 5000) (hb : ∀ u v, (u, v) ∈ E → u < m ∧ v < m) : PF Try.prog 42 [cG (m : Nat) (zbs E)] (cN E m) := by
 have hcl : (cE (zbs E)).length = E.length := by rw [zdl]; exact y0e ..
 refine zb2 env0_ok fn42 [(0, .agg [.int .i64 (m : Nat), .vs (cE (zbs E))])] (by show 1 ≤ 51; decide) rfl fun w0 N0 => ?_
 unfold ic42
 refine zsr rfl (zdg rfl rfl (za3 rfl (onu ?_)))
 refine zbo [] [(0, 0, [.int .i64 (m : Nat), .vs (cE (zbs E))])] [(1, .vptr [.int .i64 (m : Nat), .vs (cE (zbs E))])] rfl (.cons rfl rfl .nil) .nil (.cons rfl (.fptr rfl rfl) .nil) ?_
 repeat (first | refine za9 ?_ | refine za1 rfl ?_ | refine zad rfl rfl ?_ | refine zal rfl rfl rfl ?_)
 refine o_mks rfl rfl ⟨y15 m, y2a _, by omega, by decide⟩ ?_
 repeat (first | refine za9 ?_ | refine za1 rfl ?_ | refine za8 ?_ | refine za7 ?_ | refine zah ?_ | refine za3 rfl ?_ | refine zad rfl rfl ?_ | refine zal rfl rfl rfl ?_ | refine zcr rfl rfl ?_)
 have J0 : Jn m (fun _ => false) (fun _ => .nils) (fun _ => []) (fun _ => 0) (fun _ => 0) [(0, 1, AObj.cells (ze3 ((m : Nat) : Int).toNat [.nils]))] 1 := by
  refine ⟨?_, fun _ _ h => (by cases h), fun _ _ h => (by cases h), fun _ _ _ _ h => (by cases h), Nat.zero_lt_one⟩
  rw [← zjv]
  rfl
 refine zbn (fun mm S => ∃ i hp nx ck nz cv C ids sps, mm = E.length - i ∧ i ≤ E.length ∧ Jn m nz cv C ids sps hp nx ∧ Rw m (raw (E.take i)) nz cv C ids sps ∧ S = st 51 [(1, .vptr [.int .i64 (m : Nat), .vs (cE (zbs E))]), (3, .ms 0 1 1 0 m (some m)), (11, .vs (cE (zbs E))), (12, .int .i64 ((cE (zbs E)).length : Nat)), (13, .int .i64 (i : Nat))] hp nx ck) E.length
  (zaa (.cons rfl (.cons rfl (.cons rfl (.cons rfl (.cons rfl .nil)))))) ⟨0, _, _, _, _, _, _, _, _, rfl, y19 _, J0, ⟨fun _ _ h => (by cases h), fun _ _ _ => ⟨rfl, rfl⟩⟩, rfl⟩ ?_
 rintro mm S ⟨i, hp, nx, ck, nz, cv, C, ids, sps, rfl, hi, hJ, hR, rfl⟩
 unfold b42_0
 repeat (first | refine za9 ?_ | refine za1 rfl ?_)
 refine zao rfl rfl rfl (fun h3 => ?_) fun h3 => ?_
 ·have hlt : i < E.length := by
   have h4 : ((i : Nat) : Int) < (((cE (zbs E)).length : Nat) : Int) := of_decide_eq_true h3
   omega
  have w1 : IntKind.wrap .i64 (((i : Nat) : Int) + 1) = ((i + 1 : Nat) : Int) := zab i (by omega)
  have hg := zlp hlt
  obtain ⟨ha, _⟩ := hb _ _ (y17 hlt : (E[i].1, E[i].2) ∈ E)
  have hrs := fun v => raw_step hlt v
  repeat (first | refine za9 ?_ | refine za1 rfl ?_ | refine za8 ?_ | refine za7 ?_ | refine zah ?_ | refine zaf ?_ | refine zd8 rfl ?_ | refine zb8 rfl rfl rfl rfl ?_ | refine zbj ?_ | refine zba rfl rfl (by omega) (by assumption) rfl ?_)
  refine zbq (id := nx) (sp := ck) (off := 0) rfl rfl rfl rfl zai rfl rfl ?_
  refine onu ?_
  have hpn := hJ.nx0
  refine reg45 (j := nx) (s5 := ck) (a := E[i].1) (b := E[i].2) (l' := [(1, .vptr [.int .i64 (m : Nat), .vs (cE (zbs E))]), (3, .ms 0 1 1 0 m (some m)), (11, .vs (cE (zbs E))), (12, .int .i64 ((cE (zbs E)).length : Nat)), (13, .int .i64 (i : Nat))])
   ((hJ.fresh ck _).junk (j := nx) (by omega) (fun v hv hz => by have := hJ.pos v hv hz; omega) _) hR (by rw [za4, if_pos rfl]; rfl) (y0o _) (fun v hv hz => by have := hJ.pos v hv hz; omega) ha (by have := zui (E.take i) E[i].1; rw [List.length_take] at this; omega) rfl rfl (.cons rfl (.cons rfl (.cons rfl (.cons rfl (.cons rfl .nil))))) (fun x hx => by
    simp only [y0i, y0f, or_false] at hx
    rcases hx with rfl | rfl | rfl | rfl | rfl <;> simp) fun hp' nx' ck' nz' cv' C' ids' sps' hJ' hR' => ?_
  repeat (first | refine za1 rfl ?_ | refine za8 ?_ | refine za3 rfl ?_ | refine zb5 (op := .add) rfl rfl rfl ?_)
  rw [w1]
  refine zat (show E.length - (i + 1) < E.length - i by omega) (zaa (.cons rfl (.cons rfl (.cons rfl (.cons rfl (.cons rfl .nil)))))) ⟨i + 1, _, _, _, _, _, _, _, _, rfl, hlt, hJ', ?_, rfl⟩
  have : raw (E.take (i + 1)) = upd (raw (E.take i)) E[i].1 (raw (E.take i) E[i].1 ++ [((E[i].2 : Nat) : Int)]) := by
   funext v
   rw [hrs v]
   unfold upd
   by_cases e : v = E[i].1
   ·rw [if_pos e.symm, if_pos e, e]
   ·rw [if_neg fun h => e h.symm, if_neg e]
  rw [this]
  exact hR'
 ·have hie : i = E.length := by
   have h4 : ¬ ((i : Nat) : Int) < (((cE (zbs E)).length : Nat) : Int) := of_decide_eq_false h3
   omega
  subst hie
  rw [y1w] at hR
  repeat (first | refine za9 ?_ | refine za8 ?_ | refine za7 ?_ | refine zc3 rfl ?_ | refine zbw ?_ | refine zak ?_)
  refine zdb ?_
  repeat (first | refine za9 ?_ | refine za1 rfl ?_ | refine za8 ?_ | refine za7 ?_ | refine zah ?_ | refine zbu ?_ | refine za3 rfl ?_ | refine zcr rfl rfl ?_)
  refine zbn (fun mm S => ∃ i hp ck cv C sps, mm = m - i ∧ i ≤ m ∧ Jn m nz cv C ids sps hp nx ∧ Rs m (raw E) i nz cv C ids sps ∧ S = st 51 (t45 m i) hp nx ck) m
   (zaa (.cons rfl (.cons rfl (.cons rfl .nil)))) ⟨0, _, _, _, _, _, rfl, y19 _, hJ, Rs.start hR, rfl⟩ ?_
  rintro mm S ⟨i, hp, ck, cv, C, sps, rfl, hi, hJ, hR, rfl⟩
  by_cases hlt : i < m
  ·exact sort45 hm hJ hR hlt (by have := zui E i; omega) fun l' hp' cv' C' sps' hk hJ' hR' => zat (show m - (i + 1) < m - i by omega) (zaa hk) ⟨i + 1, _, _, _, _, _, rfl, hlt, hJ', hR', rfl⟩
  ·have hie : i = m := by omega
   subst hie
   unfold b42_2 t45
   repeat (first | refine za9 ?_ | refine za1 rfl ?_)
   refine ze9 rfl rfl (by show some (AV.bool (decide (((i : Nat) : Int) < ((i : Nat) : Int)))) = _; rw [decide_eq_false (Int.lt_irrefl _)]) ?_
   repeat (first | refine za9 ?_ | refine za8 ?_ | refine za7 ?_ | refine zc3 rfl ?_ | refine zbw ?_ | refine zak ?_)
   refine zdb ?_
   refine zbu (za7 ?_)
   refine zbo [(some (0, 1), (List.range i).map fun v => vN (nbr E i v))] (fzJ i nz C ids sps) [(3, .ms 0 0 1 0 i (some i))] (hJ.ok _) hJ.rnF (.cons hJ.top (zmm fun v hv => ?_) .nil) (.cons rfl (.ms rfl) .nil) ?_
   ·have hv := y0j.1 hv
    cases hz : nz v with
    | true =>
     obtain ⟨e0, e1, e2⟩ := hR.some v hv hz
     rw [if_pos hv] at e1 e2
     rw [e2]
     have hc := zsa (es := E) (N := i) (v := v) fun u w h => (hb u w h).2
     have hfz := hJ.fzl hv hz
     rw [e1] at hfz
     refine .fms hfz (by rw [y0e, hc, y0e]) (fun x hx => by obtain ⟨s, _, rfl⟩ := y0k.1 hx; rfl) ⟨(List.replicate ((srt (raw E v)).length - (cps (srt (raw E v))).length) 0).map (AV.int .i64), ?_⟩
     unfold srtc
     rw [List.drop_zero, y27, hc, zg2, y1t]
     rfl
    | false =>
     obtain ⟨e0, e2⟩ := hR.none v hv hz
     rw [if_pos hv] at e2
     rw [e2]
     have hc := zsa (es := E) (N := i) (v := v) fun u w h => (hb u w h).2
     rw [e0] at hc
     have h0 : cps (srt []) = [] := by rw [cps_eq, show srt [] = [] from by unfold srt; simp]; rfl
     have : nbr E i v = [] := List.map_eq_nil_iff.1 (hc.symm.trans h0)
     unfold vN
     rw [this]
     exact .same rfl
   refine zbo [] [(0, 0, (List.range i).map fun v => vN (nbr E i v))] [(3, cN E i)] rfl (.cons rfl ?_ .nil) .nil (.cons rfl ?_ .nil) ?_
   ·exact zm4 (fun v => rfl) _
   ·have := RenW.fms1 (live := []) (fz := [(0, 0, (List.range i).map fun v => vN (nbr E i v))]) (id := 0) (sp := 0) (len := i) (cap := some i) (vs := (List.range i).map fun v => vN (nbr E i v)) rfl (by rw [y0e, y12])
    rw [y1t] at this
    exact this
   repeat (first | refine za9 ?_ | refine za1 rfl ?_ | refine za8 ?_ | refine za7 ?_ | refine zaz ?_ | refine za3 rfl ?_)
   exact zam ⟨.inr rfl, _, rfl, rfl⟩
end Go.Proofs.Ytfbeableaihooaa
namespace Go.Proofs.Ytfbeableaihooaa
open Go Go.Am
theorem zn1 {n v : Int} (h : zfr n v = false) : 0 ≤ v ∧ v < n := by
 unfold zfr at h
 rw [y1b, decide_eq_false_iff_not, decide_eq_false_iff_not] at h
 omega
theorem zo7 {n : Int} {l : List Int} (h : zj8 n l = 0) : ∀ v ∈ l, 0 ≤ v ∧ v < n := by
 unfold zj8 at h
 split at h
 ·cases h
 ·rename_i ha
  intro v hv
  refine zn1 ?_
  cases hb : zfr n v with
  | false => rfl
  | true => exact absurd (List.any_eq_true.2 ⟨v, hv, hb⟩) ha
theorem edgE_ok {n : Int} {es : List (Int × Int)} (h : znb n es = 0) : ∀ e ∈ es, (0 ≤ e.1 ∧ e.1 < n) ∧ 0 ≤ e.2 ∧ e.2 < n := by
 unfold znb at h
 split at h
 ·cases h
 ·rename_i ha
  intro e he
  have : (zfr n e.1 || zfr n e.2) = false := by
   cases hb : (zfr n e.1 || zfr n e.2) with
   | false => rfl
   | true => exact absurd (List.any_eq_true.2 ⟨e, he, hb⟩) ha
  rw [y1b] at this
  exact ⟨zn1 this.1, zn1 this.2⟩
theorem zlr {n : Int} {es : List (Int × Int)} (h : zj7 n es = 0) : ∃ (m : Nat) (E : List (Nat × Nat)), n = (m : Int) ∧ es = zbs E ∧ m ≤ 256 ∧ E.length = es.length ∧ E.length ≤ 4096 ∧ ∀ u v, (u, v) ∈ E → u < m ∧ v < m := by
 unfold zj7 at h
 split at h
 ·cases h
 split at h
 ·cases h
 split at h
 ·cases h
 rename_i h0 h1 h2
 have hb := edgE_ok h
 refine ⟨n.toNat, es.map fun e => (e.1.toNat, e.2.toNat), by omega, ?_, by omega, y0e .., by rw [y0e]; omega, fun u v hm => ?_⟩
 ·unfold zbs
  rw [y1t]
  refine (List.map_id _).symm.trans (y1n fun e he => ?_)
  obtain ⟨⟨a, b⟩, c, d⟩ := hb e he
  show e = (((e.1.toNat : Nat) : Int), ((e.2.toNat : Nat) : Int))
  rw [Int.toNat_of_nonneg a, Int.toNat_of_nonneg c]
 ·obtain ⟨e, he, h3⟩ := y0k.1 hm
  obtain ⟨⟨a, b⟩, c, d⟩ := hb e he
  injection h3 with h3 h4
  subst h3 h4
  omega
def givV (n : Int) (es : List (Int × Int)) (l : List Int) : AV := if zig n es l = 0 then .tup [cN (es.map fun e => (e.1.toNat, e.2.toNat)) n.toNat, .int .i64 0] else .tup [.vs [], .int .i64 (zig n es l)]
theorem zhv (E : List (Nat × Nat)) : ((zbs E).map fun e => (e.1.toNat, e.2.toNat)) = E := by
 unfold zbs
 rw [y1t]
 exact (y1n fun e _ => rfl).trans (List.map_id _)
theorem zng {m : Nat} {E : List (Nat × Nat)} {l : List Int} (h : zig m (zbs E) l = 0) : givV m (zbs E) l = .tup [cN E m, .int .i64 0] := by
 unfold givV
 rw [if_pos h, zhv]
 rfl
theorem zh6 {n : Int} {es : List (Int × Int)} {l : List Int} (h : zig n es l ≠ 0) : givV n es l = .tup [.vs [], .int .i64 (zig n es l)] := if_neg h
-- pneumatic/digraph.given
def ic33 : IC := .seq (.region [oM 2 (.box (.t 0)),
  oM 4 (.mov (.c (.nils))),
  oM 5 (.mov (.c (.int .i64 0)))] none)
 (.seq (.seq (.region [oL 8 2 2,
  oM 9 (.call (.c (.fn 40 [] [])) [(.t 8)]),
  oT 6 9] none)
 (.seq (.region [oT 10 6,
  oM 11 (.bin .neq (.t 10) (.c (.int .i64 0)))] none)
 (.cond (.t 11) (.seq (.region [oT 12 6,
  oM 4 (.mov (.c (.nils))),
  oT 5 12] none)
 (.ret))
 (.skip))))
 (.seq (.seq (.region [oL 13 2 2,
  oT 14 1,
  oM 15 (.call (.c (.fn 57 [] [])) [(.t 13), (.t 14)]),
  oT 7 15] none)
 (.seq (.region [oT 16 7,
  oM 17 (.bin .neq (.t 16) (.c (.int .i64 0)))] none)
 (.cond (.t 17) (.seq (.region [oT 18 7,
  oM 4 (.mov (.c (.nils))),
  oT 5 18] none)
 (.ret))
 (.skip))))
 (.seq (.region [oL 19 2 2,
  oM 20 (.call (.c (.fn 42 [] [])) [(.t 19)]),
  oT 4 20,
  oM 5 (.mov (.c (.int .i64 0)))] none)
 (.ret))))
theorem fn33 : env0.fn 33 = some ⟨21, ic33, [.t 4, .t 5]⟩ := by kernel_rfl
set_option maxHeartbeats 1000000 in
theorem zt9 (n : Int) (es : List (Int × Int)) (l : List Int) (hl : l.length ≤ 1000000) : PF Try.prog 33 [cG n es, vsI l] (givV n es l) := by
 have p34 := check34 n es
 have p56 := zpx n es l hl
 refine zb2 env0_ok fn33 [(0, .agg [.int .i64 n, .vs (cE es)]), (1, vsI l)] (by show 2 ≤ 21; decide) rfl fun w0 N0 => ?_
 unfold ic33
 refine zsr rfl (zdg rfl rfl (za3 rfl (za3 rfl (onu ?_))))
 refine zbo [] [(0, 0, [.int .i64 n, .vs (cE es)])] [(1, vsI l), (2, .vptr [.int .i64 n, .vs (cE es)])] rfl (.cons rfl rfl .nil) .nil (.cons rfl (.same rfl) (.cons rfl (.fptr rfl rfl) .nil)) ?_
 repeat (first | refine za9 ?_ | refine za1 rfl ?_ | refine zb8 rfl rfl rfl rfl ?_)
 refine zb4 rfl rfl p34 noC ?_
 repeat (first | refine za9 ?_ | refine za1 rfl ?_ | refine za8 ?_ | refine za7 ?_ | refine za3 rfl ?_)
 refine zao rfl rfl rfl (fun h => ?_) fun h => ?_
 ·have h : ¬ zj7 n es = 0 := by simpa using h
  have hg : zig n es l = zj7 n es := if_neg h
  rw [zh6 (by rw [hg]; exact h), hg]
  repeat (first | refine za9 ?_ | refine za1 rfl ?_ | refine za8 ?_ | refine za7 ?_ | refine zd8 rfl ?_ | refine zaz ?_ | refine zav ?_ | refine za3 rfl ?_)
  exact zam ⟨.inr rfl, _, rfl, rfl⟩
 have h : zj7 n es = 0 := by simpa using h
 have hg : zig n es l = zj8 n l := if_pos h
 repeat (first | refine za9 ?_ | refine za1 rfl ?_ | refine za8 ?_ | refine za7 ?_ | refine zaf ?_ | refine zc3 rfl ?_ | refine za3 rfl ?_ | refine zb8 rfl rfl rfl rfl ?_)
 refine zb4 rfl rfl p56 noC ?_
 repeat (first | refine za9 ?_ | refine za1 rfl ?_ | refine za8 ?_ | refine za7 ?_ | refine za3 rfl ?_)
 refine zao rfl rfl rfl (fun h1 => ?_) fun h1 => ?_
 ·have h1 : ¬ zj8 n l = 0 := by simpa using h1
  rw [zh6 (by rw [hg]; exact h1), hg]
  repeat (first | refine za9 ?_ | refine za1 rfl ?_ | refine za8 ?_ | refine za7 ?_ | refine zd8 rfl ?_ | refine zaz ?_ | refine zav ?_ | refine za3 rfl ?_)
  exact zam ⟨.inr rfl, _, rfl, rfl⟩
 have h1 : zj8 n l = 0 := by simpa using h1
 obtain ⟨m, E, rfl, rfl, hm, _, hE, hb⟩ := zlr h
 rw [zng (hg.trans h1)]
 have p45 := zp0 m hm E (by omega) hb
 repeat (first | refine za9 ?_ | refine za1 rfl ?_ | refine za8 ?_ | refine za7 ?_ | refine zaf ?_ | refine zc3 rfl ?_ | refine zb8 rfl rfl rfl rfl ?_)
 refine zb4 rfl rfl p45 noC ?_
 repeat (first | refine za8 ?_ | refine za7 ?_ | refine zaz ?_ | refine za3 rfl ?_)
 exact zam ⟨.inr rfl, _, rfl, rfl⟩
def disV (n : Int) (es : List (Int × Int)) (v : Int) : AV := if zig n es [v] = 0 then .tup [vsI (zsq (es.map fun e => (e.1.toNat, e.2.toNat)) n.toNat v.toNat n.toNat), .int .i64 0] else .tup [.vs [], .int .i64 (zig n es [v])]
theorem zsi {m f : Nat} {E : List (Nat × Nat)} (h : zig m (zbs E) [(f : Int)] = 0) : disV m (zbs E) f = .tup [vsI (zsq E m f m), .int .i64 0] := by
 unfold disV
 rw [if_pos h, zhv]
 rfl
theorem disV_err {n : Int} {es : List (Int × Int)} {v : Int} (h : zig n es [v] ≠ 0) : disV n es v = .tup [.vs [], .int .i64 (zig n es [v])] := if_neg h
theorem zt8 {n : Int} {es : List (Int × Int)} {l : List Int} (h : zig n es l = 0) : zj7 n es = 0 ∧ zj8 n l = 0 := by
 unfold zig at h
 split at h
 ·rename_i hc; exact ⟨hc, h⟩
 ·rename_i hc; exact absurd h hc
-- pneumatic/digraph.Distances
def ic11 : IC := .seq (.region [oM 2 (.box (.t 0)),
  oM 4 (.mov (.c (.nils))),
  oM 5 (.mov (.c (.int .i64 0)))] none)
 (.seq (.region [oL 9 2 2,
  oT 10 1,
  oM 11 (.bslice 1 1 [.int .i64 0] [(0, 1, (.t 10))]),
  oM 12 (.call (.c (.fn 33 [] [])) [(.t 9), (.t 11)]),
  oT 8 12,
  oM 13 (.extract (.t 8) 0),
  oM 14 (.extract (.t 8) 1),
  oT 6 13,
  oT 7 14] none)
 (.seq (.seq (.region [oT 15 7,
  oM 16 (.bin .neq (.t 15) (.c (.int .i64 0)))] none)
 (.cond (.t 16) (.seq (.region [oT 17 7,
  oM 4 (.mov (.c (.nils))),
  oT 5 17] none)
 (.ret))
 (.skip)))
 (.seq (.region [oT 18 6,
  oT 19 1,
  oM 20 (.call (.c (.fn 34 [] [])) [(.t 18), (.t 19)]),
  oT 4 20,
  oM 5 (.mov (.c (.int .i64 0)))] none)
 (.ret))))
theorem fn11 : env0.fn 11 = some ⟨21, ic11, [.t 4, .t 5]⟩ := by kernel_rfl
set_option maxHeartbeats 1000000 in
theorem zna (n : Int) (es : List (Int × Int)) (hn : zj7 n es = 0 → n ≤ 12) (v : Int) : PF Try.prog 11 [cG n es, .int .i64 v] (disV n es v) := by
 have p46 := zt9 n es [v] (by simp)
 refine zb2 env0_ok fn11 [(0, .agg [.int .i64 n, .vs (cE es)]), (1, .int .i64 v)] (by show 2 ≤ 21; decide) rfl fun w0 N0 => ?_
 unfold ic11
 refine zsr rfl (zdg rfl rfl (za3 rfl (za3 rfl (onu ?_))))
 refine zbo [] [(0, 0, [.int .i64 n, .vs (cE es)])] [(1, .int .i64 v), (2, .vptr [.int .i64 n, .vs (cE es)])] rfl (.cons rfl rfl .nil) .nil (.cons rfl (.same rfl) (.cons rfl (.fptr rfl rfl) .nil)) ?_
 repeat (first | refine za9 ?_ | refine za1 rfl ?_ | refine za3 rfl ?_ | refine zb8 rfl rfl rfl rfl ?_)
 refine o_fsl [[.int .i64 v]] rfl rfl rfl rfl ?_
 refine zb4 rfl rfl p46 noC ?_
 by_cases hg : zig n es [v] = 0
 ·obtain ⟨hc, hv⟩ := zt8 hg
  obtain ⟨v0, v1⟩ := zo7 hv v (by simp)
  have hn := hn hc
  obtain ⟨m, E, rfl, rfl, hm, _, hE, hb⟩ := zlr hc
  obtain ⟨f, rfl⟩ := Int.eq_ofNat_of_zero_le v0
  rw [zng hg, zsi hg]
  have p48 := far48 m (by omega) E hb f (by omega)
  repeat (first | refine za9 ?_ | refine za1 rfl ?_ | refine za8 ?_ | refine za7 ?_ | refine zaf ?_ | refine zc3 rfl ?_ | refine za3 rfl ?_ | refine zcf rfl rfl ?_ | refine ze9 rfl rfl rfl ?_)
  refine zb4 rfl rfl p48 noC ?_
  repeat (first | refine za8 ?_ | refine za7 ?_ | refine zaz ?_ | refine za3 rfl ?_)
  exact zam ⟨.inr rfl, _, rfl, rfl⟩
 ·rw [zh6 hg, disV_err hg]
  repeat (first | refine za9 ?_ | refine za1 rfl ?_ | refine za8 ?_ | refine za7 ?_ | refine za3 rfl ?_ | refine zcf rfl rfl ?_)
  refine zao rfl rfl rfl (fun h => ?_) fun h => absurd (by simpa using h) hg
  repeat (first | refine za9 ?_ | refine za1 rfl ?_ | refine za8 ?_ | refine za7 ?_ | refine zd8 rfl ?_ | refine zaz ?_ | refine zav ?_ | refine za3 rfl ?_)
  exact zam ⟨.inr rfl, _, rfl, rfl⟩
end Go.Proofs.Ytfbeableaihooaa
namespace Go.Proofs.Ytfbeableaihooaa
open Go Go.Am
theorem gI_at {o : List Int} {i : Nat} (h : i < o.length) : o[i] = gI o i := by
 unfold gI
 rw [y0d, y09 h]
 rfl
end Go.Proofs.Ytfbeableaihooaa
