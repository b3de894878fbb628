/-
  A LIST OF LISTS OF ITS OWN: what is known of the memory, by vertex.; WALKING BOUNDS AGAIN AND AGAIN, in plain Lean.; slices.Repeat of -1.; A QUEUE: a list of its own that is cut at its begin and grows at its end; steps on it.; THE DISTANCES FROM A VERTEX: far walked.; THE REFERENCE's CHECKS OF GRAPHS; small graphs.; THE LIBRARY's CONTRACTS of sort.Ints and slices.Compact, laid at this program; the
-/
import Derived.Test.YtfbeableaihooaaNX1
import Derived.Shelf.Sort.Plain
import Derived.Shelf.Slices.CompactI
namespace Go.Proofs.Ytfbeableaihooaa
open Go Go.Am
def upd {α : Type} (f : Nat → α) (a : Nat) (x : α) : Nat → α := fun v => if v = a then x else f v
theorem zaf {α : Type} (f : Nat → α) (a : Nat) (x : α) : upd f a x a = x := if_pos rfl
theorem zaa {α : Type} (f : Nat → α) {a v : Nat} (x : α) (h : v ≠ a) : upd f a x v = f v := if_neg h
theorem map_set {α : Type} (f : Nat → α) (m a : Nat) (x : α) : ((List.range m).map f).set a x = (List.range m).map (upd f a x) := by
 refine y2t (by simp) fun i h1 h2 => ?_
 rw [List.getElem_set, y2f, y2f, List.getElem_range]
 by_cases h : a = i
 ·subst h
  rw [if_pos rfl, zaf]
 ·rw [if_neg h, zaa _ _ (fun e => h e.symm)]
structure Jn (m : Nat) (nz : Nat → Bool) (cv : Nat → AV) (C : Nat → List Int) (ids sps : Nat → Nat) (hp : List (Nat × Nat × AObj)) (nx : Nat) : Prop where
 top : Am.look 0 hp = some (1, .cells ((List.range m).map cv))
 cell : ∀ v, v < m → nz v = true → Am.look (ids v) hp = some (sps v, .cells ((C v).map (AV.int .i64)))
 pos : ∀ v, v < m → nz v = true → 0 < ids v ∧ ids v < nx
 inj : ∀ u v, u < m → v < m → nz u = true → nz v = true → ids u = ids v → u = v
 nx0 : 0 < nx
section
variable {m : Nat} {nz : Nat → Bool} {cv : Nat → AV} {C : Nat → List Int} {ids sps : Nat → Nat} {hp : List (Nat × Nat × AObj)} {nx : Nat}
theorem Jn.fresh (h : Jn m nz cv C ids sps hp nx) (ck : Nat) (o : AObj) : Jn m nz cv C ids sps ((nx, ck, o) :: hp) (nx + 1) :=
 ⟨by rw [za3, if_neg (by have := h.nx0; omega)]; exact h.top, fun v hv hz => by rw [za3, if_neg (by have := h.pos v hv hz; omega)]; exact h.cell v hv hz,
  fun v hv hz => by have := h.pos v hv hz; omega, h.inj, Nat.succ_pos _⟩
theorem Jn.junk (h : Jn m nz cv C ids sps hp nx) {j : Nat} (h0 : j ≠ 0) (hj : ∀ v, v < m → nz v = true → ids v ≠ j) (x : Nat × AObj) : Jn m nz cv C ids sps (zbu j x hp) nx :=
 ⟨by rw [za4, if_neg h0]; exact h.top, fun v hv hz => by rw [za4, if_neg fun e => hj v hv hz e.symm]; exact h.cell v hv hz, h.pos, h.inj, h.nx0⟩
theorem Jn.block (h : Jn m nz cv C ids sps hp nx) {a : Nat} (ha : a < m) (hz : nz a = true) (sp : Nat) (D : List Int) : Jn m nz cv (upd C a D) ids (upd sps a sp) (zbu (ids a) (sp, .cells (D.map (AV.int .i64))) hp) nx := by
 refine ⟨by rw [za4, if_neg (by have := h.pos a ha hz; omega)]; exact h.top, fun v hv hzv => ?_, h.pos, h.inj, h.nx0⟩
 rw [za4]
 by_cases e : v = a
 ·subst e
  rw [if_pos rfl, zaf, zaf]
 ·rw [if_neg fun e2 => e (h.inj v a hv ha hzv hz e2.symm), zaa _ _ e, zaa _ _ e]
  exact h.cell v hv hzv
theorem Jn.cset (h : Jn m nz cv C ids sps hp nx) (a : Nat) (x : AV) : Jn m nz (upd cv a x) C ids sps (zbu 0 (1, .cells (((List.range m).map cv).set a x)) hp) nx :=
 ⟨by rw [za4, if_pos rfl, map_set], fun v hv hz => by rw [za4, if_neg (by have := h.pos v hv hz; omega)]; exact h.cell v hv hz, h.pos, h.inj, h.nx0⟩
theorem Jn.add (h : Jn m nz cv C ids sps hp nx) (a ck : Nat) (D : List Int) : Jn m (upd nz a true) cv (upd C a D) (upd ids a nx) (upd sps a ck) ((nx, ck, .cells (D.map (AV.int .i64))) :: hp) (nx + 1) := by
 refine ⟨by rw [za3, if_neg (by have := h.nx0; omega)]; exact h.top, fun v hv hz => ?_, fun v hv hz => ?_, fun u v hu hv hzu hzv e => ?_, Nat.succ_pos _⟩
 ·by_cases e : v = a
  ·subst e
   rw [zaf, zaf, zaf, za3, if_pos rfl]
  ·rw [zaa _ _ e] at hz
   rw [zaa _ _ e, zaa _ _ e, zaa _ _ e, za3, if_neg (by have := h.pos v hv hz; omega)]
   exact h.cell v hv hz
 ·by_cases e : v = a
  ·subst e
   rw [zaf]
   have := h.nx0
   omega
  ·rw [zaa _ _ e] at hz ⊢
   have := h.pos v hv hz
   omega
 ·by_cases e1 : u = a
  ·by_cases e2 : v = a
   ·rw [e1, e2]
   ·rw [zaa _ _ e2] at hzv
    subst e1
    rw [zaf, zaa _ _ e2] at e
    have := h.pos v hv hzv
    omega
  ·rw [zaa _ _ e1] at hzu
   by_cases e2 : v = a
   ·subst e2
    rw [zaf, zaa _ _ e1] at e
    have := h.pos u hu hzu
    omega
   ·rw [zaa _ _ e2] at hzv
    rw [zaa _ _ e1, zaa _ _ e2] at e
    exact h.inj u v hu hv hzu hzv e
theorem Jn.get (h : Jn m nz cv C ids sps hp nx) {a : Nat} (ha : a < m) : ((List.range m).map cv)[a]? = some (cv a) := by
 rw [y0d, y1c ha]
 rfl
def fzJ (m : Nat) (nz : Nat → Bool) (C : Nat → List Int) (ids sps : Nat → Nat) : List (Nat × Nat × List AV) := ((List.range m).filter nz).map fun v => (ids v, sps v, (C v).map (AV.int .i64))
theorem zpm {id sp : Nat} {cs : List AV} : ∀ {l : List (Nat × Nat × List AV)}, (id, sp, cs) ∈ l → (∀ x ∈ l, x.1 = id → x.2.2 = cs) → fzl id sp l = some cs
 | [], h, _ => by cases h
 | (i, s, ds) :: l, h, hu => by
  rw [fzl]
  cases hb : Nat.beq i id && Nat.beq s sp with
  | true =>
   rw [y0g] at hb
   have := hu (i, s, ds) (y08 ..) (y0o hb.1)
   exact congrArg some this
  | false =>
   refine zpm ((y0n.1 h).resolve_left fun e => ?_) fun x hx => hu x (y06 _ hx)
   injection e with e1 e2
   injection e2 with e2 e3
   subst e1 e2
   rw [y2a, y2a] at hb
   cases hb
theorem zq9 {hp : List (Nat × Nat × AObj)} : ∀ {l : List (Nat × Nat × List AV)}, (∀ x ∈ l, Am.look x.1 hp = some (x.2.1, .cells x.2.2) ∧ hasM.hasML x.2.2 = false) → RnF hp l
 | [], _ => .nil
 | (_, _, _) :: l, h => .cons (h _ (y08 ..)).1 (h _ (y08 ..)).2 (zq9 fun x hx => h x (y06 _ hx))
theorem zq8 {live : zh9} {fz : List (Nat × Nat × List AV)} {f g : Nat → AV} : ∀ {l : List Nat}, (∀ v ∈ l, RenW live fz (f v) (g v)) → RnC live fz (l.map f) (l.map g)
 | [], _ => .nil
 | v :: l, h => .cons (h v (y08 ..)) (zq8 fun x hx => h x (y06 _ hx))
theorem Jn.fzl (h : Jn m nz cv C ids sps hp nx) {v : Nat} (hv : v < m) (hz : nz v = true) : Am.fzl (ids v) (sps v) (fzJ m nz C ids sps) = some ((C v).map (AV.int .i64)) := by
 refine zpm (y0i.2 ⟨v, y13.2 ⟨y0j.2 hv, hz⟩, rfl⟩) fun x hx e => ?_
 obtain ⟨u, hu, rfl⟩ := y0i.1 hx
 obtain ⟨h1, h2⟩ := y13.1 hu
 rw [h.inj u v (y0j.1 h1) hv h2 hz e]
theorem Jn.rnF (h : Jn m nz cv C ids sps hp nx) : RnF hp (fzJ m nz C ids sps) := zq9 fun x hx => by
 obtain ⟨u, hu, rfl⟩ := y0i.1 hx
 obtain ⟨h1, h2⟩ := y13.1 hu
 exact ⟨h.cell u (y0j.1 h1) h2, zc4 _⟩
theorem Jn.ok (h : Jn m nz cv C ids sps hp nx) (cs : List AV) : okW ((fzJ m nz C ids sps).map (·.1)) [(some (0, 1), cs)] = true := by
 show (!memN 0 ((fzJ m nz C ids sps).map (·.1)) && true) = true
 have : memN 0 ((fzJ m nz C ids sps).map (·.1)) = false := by
  cases hb : memN 0 ((fzJ m nz C ids sps).map (·.1)) with
  | false => rfl
  | true =>
   obtain ⟨x, hx, e⟩ := y0i.1 (zfe.1 hb)
   obtain ⟨u, hu, rfl⟩ := y0i.1 hx
   obtain ⟨h1, h2⟩ := y13.1 hu
   have := (h.pos u (y0j.1 h1) h2).1
   exact absurd e (Nat.ne_of_gt this)
 rw [this]
 rfl
end
theorem zk2 (m : Nat) (x : AV) : zed m [x] = (List.range m).map fun _ => x := by
 have h : ∀ m : Nat, zed m [x] = List.replicate m x := by
  intro m
  induction m with
  | zero => rfl
  | succ m ih => exact (congrArg ([x] ++ ·) ih)
 rw [h, List.map_const', y0m]
def zbm (E : List (Nat × Nat)) : List (Int × Int) := E.map fun e => ((e.1 : Nat), (e.2 : Nat))
theorem zm5 {E : List (Nat × Nat)} {i : Nat} (h : i < E.length) : (cE (zbm E))[((i : Nat) : Int).toNat]? = some [.int .i64 (E[i].1 : Nat), .int .i64 (E[i].2 : Nat)] := by
 unfold cE zbm
 rw [y0t, y0d, y0d, y07 h]
 rfl
def vN (l : List Nat) : AV := .vs (l.map fun w => [.int .i64 (w : Nat)])
def cN (E : List (Nat × Nat)) (m : Nat) : AV := .vs ((List.range m).map fun v => [vN (nbr E m v)])
theorem raw_step {E : List (Nat × Nat)} {i : Nat} (h : i < E.length) (v : Nat) : raw (E.take (i + 1)) v = if E[i].1 = v then raw (E.take i) v ++ [((E[i].2 : Nat) : Int)] else raw (E.take i) v := by
 unfold raw
 rw [y2b, y07 h]
 show ((E.take i ++ [E[i]]).filter _).map _ = _
 rw [List.filter_append, y1u, y1r]
 by_cases e : E[i].1 = v
 ·rw [if_pos (by simpa using e), if_pos e]
  rfl
 ·rw [if_neg (by simpa using e), if_neg e, List.filter_nil, List.map_nil, y18]
structure BF where
 F : Nat → Int
 P : Nat → Nat
 last : Int
def bfS (D : Nat → Nat → Int) (i j : Nat) (s : BF) : BF := if D i j ≠ nnB ∧ s.F i + D i j < s.F j then ⟨upd s.F j (s.F i + D i j), upd s.P j i, (j : Nat)⟩ else s
def bfJ (D : Nat → Nat → Int) (i : Nat) : Nat → BF → BF
 | 0, s => s
 | j + 1, s => bfS D i j (bfJ D i j s)
def bfI (D : Nat → Nat → Int) (K : Nat) : Nat → BF → BF
 | 0, s => s
 | i + 1, s => bfJ D i K (bfI D K i s)
def bfZ (s : BF) : BF := ⟨s.F, s.P, -1⟩
def bfR (D : Nat → Nat → Int) (K : Nat) : Nat → BF
 | 0 => ⟨fun _ => 0, fun _ => 0, -1⟩
 | r + 1 => bfI D K K (bfZ (bfR D K r))
def OkL (D : Nat → Nat → Int) (K : Nat) : Prop := ∀ i j, i < K → j < K → D i j = nnB ∨ (-1 ≤ D i j ∧ D i j ≤ 0)
structure BfB (K c : Nat) (s : BF) : Prop where
 lo : ∀ j, -(c : Int) ≤ s.F j
 hi : ∀ j, s.F j ≤ 0
 p : ∀ j, s.P j < K
 l : s.last = -1 ∨ (0 ≤ s.last ∧ s.last < (K : Nat))
section
variable {D : Nat → Nat → Int} {K : Nat} (hD : OkL D K)
include hD
theorem bfS_b {i j c : Nat} {s : BF} (hi : i < K) (hj : j < K) (h : BfB K c s) : BfB K (c + 1) (bfS D i j s) := by
 unfold bfS
 by_cases e : D i j ≠ nnB ∧ s.F i + D i j < s.F j
 ·rw [if_pos e]
  have r := (hD i j hi hj).resolve_left e.1
  refine ⟨fun k => ?_, fun k => ?_, fun k => ?_, .inr ⟨y0y j, y0x.2 hj⟩⟩
  ·show _ ≤ upd s.F j (s.F i + D i j) k
   by_cases x : k = j
   ·subst x
    rw [zaf]
    have := h.lo i
    omega
   ·rw [zaa _ _ x]
    have := h.lo k
    omega
  ·show upd s.F j (s.F i + D i j) k ≤ 0
   by_cases x : k = j
   ·subst x
    rw [zaf]
    have := h.hi i
    omega
   ·rw [zaa _ _ x]
    exact h.hi k
  ·show upd s.P j i k < K
   by_cases x : k = j
   ·subst x
    rw [zaf]
    exact hi
   ·rw [zaa _ _ x]
    exact h.p k
 ·rw [if_neg e]
  exact ⟨fun k => by have := h.lo k; omega, h.hi, h.p, h.l⟩
theorem bfJ_b {i c : Nat} {s : BF} (hi : i < K) (h : BfB K c s) : ∀ j, j ≤ K → BfB K (c + j) (bfJ D i j s)
 | 0, _ => h
 | j + 1, hj => bfS_b hD hi (by omega) (bfJ_b hi h j (by omega))
theorem bfI_b {c : Nat} {s : BF} (hK : K ≤ 13) (h : BfB K c s) : ∀ i, i ≤ K → BfB K (c + i * 13) (bfI D K i s)
 | 0, _ => h
 | i + 1, hi => by
  have a := bfJ_b hD (i := i) (by omega) (bfI_b hK h i (by omega)) K (y0c K)
  exact ⟨fun k => by have := a.lo k; show _ ≤ (bfJ D i K (bfI D K i s)).F k; omega, a.hi, a.p, a.l⟩
theorem zqz (hK : K ≤ 13) (h0 : 0 < K) : ∀ r, BfB K (r * 169) (bfR D K r)
 | 0 => ⟨fun _ => by show -((0 * 169 : Nat) : Int) ≤ 0; omega, fun _ => y1e 0, fun _ => h0, .inl rfl⟩
 | r + 1 => by
  have b := zqz hK h0 r
  have a := bfI_b hD (s := bfZ (bfR D K r)) hK ⟨b.lo, b.hi, b.p, .inl rfl⟩ K (y0c K)
  exact ⟨fun k => by have := a.lo k; show _ ≤ (bfI D K K (bfZ (bfR D K r))).F k; omega, a.hi, a.p, a.l⟩
end
structure Pot (D : Nat → Nat → Int) (K : Nat) (p : Nat → Int) (d : Nat → Nat) : Prop where
 le0 : ∀ j, j < K → p j ≤ 0
 fea : ∀ i j, i < K → j < K → D i j ≠ nnB → p j ≤ p i + D i j
 dep : ∀ j, j < K → d j < K
 zer : ∀ j, j < K → d j = 0 → p j = 0
 suc : ∀ j, j < K → d j ≠ 0 → ∃ i, i < K ∧ d i < d j ∧ D i j ≠ nnB ∧ p j = p i + D i j
structure BfP (D : Nat → Nat → Int) (K : Nat) (p : Nat → Int) (d : Nat → Nat) (r i0 j0 : Nat) (s : BF) : Prop where
 lo : ∀ j, j < K → p j ≤ s.F j
 fin : ∀ j, j < K → d j ≤ r → s.F j = p j
 pro : ∀ i j, i < K → j < K → (i < i0 ∨ (i = i0 ∧ j < j0)) → d i ≤ r → D i j ≠ nnB → p j = p i + D i j → s.F j = p j
section
variable {D : Nat → Nat → Int} {K : Nat} {p : Nat → Int} {d : Nat → Nat} (hp : Pot D K p d)
include hp
theorem bfS_p {r i j : Nat} {s : BF} (hi : i < K) (hj : j < K) (h : BfP D K p d r i j s) : BfP D K p d r i (j + 1) (bfS D i j s) := by
 have hl := h.lo i hi
 have hlj := h.lo j hj
 unfold bfS
 by_cases e : D i j ≠ nnB ∧ s.F i + D i j < s.F j
 ·rw [if_pos e]
  have hf := hp.fea i j hi hj e.1
  have keep : ∀ k, k < K → s.F k = p k → upd s.F j (s.F i + D i j) k = p k := fun k hk ek => by
   by_cases x : k = j
   ·subst x
    omega
   ·rw [zaa _ _ x]
    exact ek
  refine ⟨fun k hk => ?_, fun k hk hd => keep k hk (h.fin k hk hd), fun a b ha hb hab hda hn he => ?_⟩
  ·show p k ≤ upd s.F j (s.F i + D i j) k
   by_cases x : k = j
   ·subst x
    rw [zaf]
    omega
   ·rw [zaa _ _ x]
    exact h.lo k hk
  ·by_cases x : a = i ∧ b = j
   ·obtain ⟨rfl, rfl⟩ := x
    show upd s.F b (s.F a + D a b) b = p b
    rw [zaf, h.fin a ha hda]
    exact he.symm
   ·exact keep b hb (h.pro a b ha hb (by omega) hda hn he)
 ·rw [if_neg e]
  refine ⟨h.lo, h.fin, fun a b ha hb hab hda hn he => ?_⟩
  by_cases x : a = i ∧ b = j
  ·obtain ⟨rfl, rfl⟩ := x
   have fa := h.fin a ha hda
   have : ¬ s.F a + D a b < s.F b := fun y => e ⟨hn, y⟩
   omega
  ·exact h.pro a b ha hb (by omega) hda hn he
theorem bfJ_p {r i : Nat} {s : BF} (hi : i < K) (h : BfP D K p d r i 0 s) : ∀ j, j ≤ K → BfP D K p d r i j (bfJ D i j s)
 | 0, _ => h
 | j + 1, hj => bfS_p hp hi (by omega) (bfJ_p hi h j (by omega))
theorem bfI_p {r : Nat} {s : BF} (h : BfP D K p d r 0 0 s) : ∀ i, i ≤ K → BfP D K p d r i 0 (bfI D K i s)
 | 0, _ => h
 | i + 1, hi => by
  have a := bfJ_p hp (i := i) (by omega) (bfI_p h i (by omega)) K (y0c K)
  exact ⟨a.lo, a.fin, fun x y hx hy hxy hd hn he => a.pro x y hx hy (by omega) hd hn he⟩
theorem bfR_p : ∀ r, BfP D K p d r 0 0 (bfR D K r)
 | 0 => ⟨hp.le0, fun j hj hd => (hp.zer j hj (by omega)).symm, fun _ _ _ _ h => by omega⟩
 | r + 1 => by
  have b := bfR_p r
  have a := bfI_p hp (s := bfZ (bfR D K r)) ⟨b.lo, b.fin, fun _ _ _ _ h => by omega⟩ K (y0c K)
  refine ⟨a.lo, fun j hj hd => ?_, fun _ _ _ _ h => by omega⟩
  by_cases x : d j ≤ r
  ·exact a.fin j hj x
  ·obtain ⟨i, hi, hdi, hn, he⟩ := hp.suc j hj (by omega)
   exact a.pro i j hi hj (.inl hi) (by omega) hn he
theorem zp2 {i : Nat} {s : BF} (hi : i < K) (h : ∀ j, j < K → s.F j = p j) : ∀ j, j ≤ K → bfJ D i j s = s
 | 0, _ => rfl
 | j + 1, hj => by
  show bfS D i j (bfJ D i j s) = s
  rw [zp2 hi h j (by omega)]
  unfold bfS
  rw [if_neg]
  rintro ⟨hn, hlt⟩
  have := hp.fea i j hi (by omega) hn
  rw [h i hi, h j (by omega)] at hlt
  omega
theorem zp0 {s : BF} (h : ∀ j, j < K → s.F j = p j) : ∀ i, i ≤ K → bfI D K i s = s
 | 0, _ => rfl
 | i + 1, hi => by
  show bfJ D i K (bfI D K i s) = s
  rw [zp0 h i (by omega)]
  exact zp2 hp (by omega) h K (y0c K)
theorem bf_nil (h0 : 0 < K) : (bfR D K K).last = -1 := by
 obtain ⟨r, rfl⟩ : ∃ r, K = r + 1 := ⟨K - 1, by omega⟩
 have b := bfR_p hp r
 show (bfI D (r + 1) (r + 1) (bfZ (bfR D (r + 1) r))).last = -1
 rw [zp0 hp (s := bfZ (bfR D (r + 1) r)) (fun j hj => b.fin j hj (by have := hp.dep j hj; omega)) (r + 1) (y0c _)]
 rfl
end
theorem zp1 {D : Nat → Nat → Int} {i : Nat} {s : BF} : ∀ j, (bfJ D i j s).last = -1 → bfJ D i j s = s ∧ ∀ b, b < j → D i b ≠ nnB → s.F b ≤ s.F i + D i b
 | 0, _ => ⟨rfl, fun b hb => by omega⟩
 | j + 1, h => by
  have h : (bfS D i j (bfJ D i j s)).last = -1 := h
  show bfS D i j (bfJ D i j s) = s ∧ _
  unfold bfS at h ⊢
  by_cases e : D i j ≠ nnB ∧ (bfJ D i j s).F i + D i j < (bfJ D i j s).F j
  ·rw [if_pos e] at h
   have h : ((j : Nat) : Int) = -1 := h
   omega
  ·rw [if_neg e] at h ⊢
   obtain ⟨x, y⟩ := zp1 j h
   refine ⟨x, fun b hb hn => ?_⟩
   by_cases z : b = j
   ·subst z
    rw [x] at e
    exact Int.not_lt.1 fun w => e ⟨hn, w⟩
   ·exact y b (by omega) hn
theorem zoz {D : Nat → Nat → Int} {K : Nat} {s : BF} : ∀ i, (bfI D K i s).last = -1 → bfI D K i s = s ∧ ∀ a b, a < i → b < K → D a b ≠ nnB → s.F b ≤ s.F a + D a b
 | 0, _ => ⟨rfl, fun a b ha => by omega⟩
 | i + 1, h => by
  have h : (bfJ D i K (bfI D K i s)).last = -1 := h
  obtain ⟨x, y⟩ := zp1 K h
  rw [x] at h
  obtain ⟨z, w⟩ := zoz i h
  refine ⟨x.trans z, fun a b ha hb hn => ?_⟩
  by_cases e : a = i
  ·subst e
   rw [z] at y
   exact y b hb hn
  ·exact w a b (by omega) hb hn
structure NegC (D : Nat → Nat → Int) (K L : Nat) (g : Nat → Nat) : Prop where
 pos : 0 < L
 per : g L = g 0
 lt : ∀ t, g t < K
 neg : ∀ t, t < L → D (g (t + 1)) (g t) = -1
theorem zsn {D : Nat → Nat → Int} {K L : Nat} {g : Nat → Nat} (hg : NegC D K L g) (r : Nat) : (bfR D K (r + 1)).last ≠ -1 := fun h => by
 obtain ⟨_, w⟩ := zoz (s := bfZ (bfR D K r)) K h
 have key : ∀ t, t ≤ L → (bfZ (bfR D K r)).F (g 0) ≤ (bfZ (bfR D K r)).F (g t) - (t : Nat) := fun t => by
  induction t with
  | zero => intro _; omega
  | succ t ih =>
   intro ht
   have a := ih (by omega)
   have b := w (g (t + 1)) (g t) (hg.lt (t + 1)) (hg.lt t) (by rw [hg.neg t (by omega)]; decide)
   rw [hg.neg t (by omega)] at b
   omega
 have a := key L (y0c L)
 rw [hg.per] at a
 have := hg.pos
 omega
theorem bk_lt {P : Nat → Nat} {K : Nat} (hP : ∀ j, P j < K) {x : Nat} (hx : x < K) : ∀ k, bk P k x < K
 | 0 => hx
 | _ + 1 => hP _
theorem zm1 (P : Nat → Nat) (x a : Nat) : ∀ b, bk P (a + b) x = bk P b (bk P a x)
 | 0 => rfl
 | b + 1 => congrArg P (zm1 P x a b)
theorem bk_back {P : Nat → Nat} {K : Nat} (hP : ∀ j, P j < K) {x : Nat} (hx : x < K) : ∃ t, 1 ≤ t ∧ t ≤ K ∧ bk P t (bk P K x) = bk P K x := by
 have : ∃ a b, a < b ∧ b ≤ K ∧ bk P a x = bk P b x := by
  refine y1z fun c => ?_
  have nd : ((List.range (K + 1)).map fun k => bk P k x).Nodup := by
   refine List.pairwise_map.2 ?_
   refine List.Pairwise.imp_of_mem ?_ (List.pairwise_lt_range (n := K + 1))
   intro a b _ hb hlt e
   exact c ⟨a, b, hlt, by have := y0j.1 hb; omega, e⟩
  have := zdp (b := List.range K) nd fun y hy => by
   obtain ⟨k, _, rfl⟩ := y0i.1 hy
   exact y0j.2 (bk_lt hP hx k)
  rw [y04, y0m, y0m] at this
  omega
 obtain ⟨a, b, hab, hb, e⟩ := this
 refine ⟨b - a, by omega, by omega, ?_⟩
 have h1 := zm1 P x a (K - a)
 rw [show a + (K - a) = K by omega] at h1
 rw [h1, ← zm1, show K - a + (b - a) = (b - a) + (K - a) by omega, zm1, ← zm1 P x a (b - a), show a + (b - a) = b by omega, ← e]
def own61 : List (List AV × List AV) := (List.range 13).map fun m => ([.vs [[.int .i64 (-1)]], .int .i64 (m : Nat)], List.replicate m (AV.int .i64 (-1)))
theorem own61_ok : ownRun Try.prog (env0.tab [] []) 80 58 some own61 = true := by kernel_rfl
theorem repeat61 {m : Nat} (h : m ≤ 12) : PFo Try.prog 58 [.vs [[.int .i64 (-1)]], .int .i64 (m : Nat)] 1 m (some m) ((List.replicate m (-1 : Int)).map (AV.int .i64)) := by
 have := own_rows (env0_ok.tab TabOk.nil) own61_ok ([.vs [[.int .i64 (-1)]], .int .i64 (m : Nat)], List.replicate m (AV.int .i64 (-1))) (y0i.2 ⟨m, y0j.2 (by omega), rfl⟩)
 simp only [y1j] at this
 rw [List.map_replicate]
 exact this
def iN (q : List Nat) : List AV := q.map fun w => AV.int .i64 (w : Nat)
theorem iN_len (q : List Nat) : (iN q).length = q.length := y04 ..
inductive QV (hp : List (Nat × Nat × AObj)) (nx : Nat) (q : List Nat) : AV → Prop
 | lit {id sp : Nat} (a : Nat) (hq : q = [a]) (hl : Am.look id hp = some (sp, .cells (iN [a]))) (h1 : id ≠ 1) (hn : id < nx) : QV hp nx q (.ms id sp 1 0 1 (some 1))
 | gen {id sp off : Nat} {cs : List AV} (hl : Am.look id hp = some (sp, .cells cs)) (hd : cs.drop off = iN q) (h1 : id ≠ 1) (hn : id < nx) : QV hp nx q (.ms id sp 1 off q.length none)
 | nil {id sp off : Nat} (hq : q = []) : QV hp nx q (.ms id sp 1 off 0 (some 0))
structure Fq (o : List Int) (q : List Nat) (qv : AV) (hp : List (Nat × Nat × AObj)) (nx : Nat) : Prop where
 out : Am.look 1 hp = some (2, .cells (o.map (AV.int .i64)))
 nx1 : 1 < nx
 qu : QV hp nx q qv
section
variable {w0 : World} {N0 n d nx ck : Nat} {k : List Fr} {Q : Exit → AS → Prop} {o : List Int} {q : List Nat} {qv : AV} {hp : List (Nat × Nat × AObj)} {l : List (Nat × AV)} {ios : List Opr}
theorem Fq.fresh (h : Fq o q qv hp nx) (ck : Nat) (x : AObj) : Fq o q qv ((nx, ck, x) :: hp) (nx + 1) := by
 have h1 := h.nx1
 refine ⟨by rw [za3, if_neg (by omega)]; exact h.out, by omega, ?_⟩
 cases h.qu with
 | lit a hq hl h1 hn => exact .lit a hq (by rw [za3, if_neg (by omega)]; exact hl) h1 (by omega)
 | gen hl hd h1 hn => exact .gen (by rw [za3, if_neg (by omega)]; exact hl) hd h1 (by omega)
 | nil hq => exact .nil hq
theorem Fq.set (h : Fq o q qv hp nx) (v : Nat) (x : Int) : Fq (o.set v x) q qv (zbu 1 (2, .cells ((o.map (AV.int .i64)).set v (.int .i64 x))) hp) nx := by
 refine ⟨by rw [za4, if_pos rfl, ← List.map_set], h.nx1, ?_⟩
 cases h.qu with
 | lit a hq hl h1 hn => exact .lit a hq (by rw [za4, if_neg (fun e => h1 e.symm)]; exact hl) h1 hn
 | gen hl hd h1 hn => exact .gen (by rw [za4, if_neg (fun e => h1 e.symm)]; exact hl) hd h1 hn
 | nil hq => exact .nil hq
theorem o_qlen {x : Arg} (hF : Fq o q qv hp nx) (hx : zb6 x l = some qv) (go : Om Try.prog w0 N0 none (KnP Try.prog w0 N0) ios (st n ((d, .int .i64 (q.length : Nat)) :: l) hp nx ck) k Q) : Om Try.prog w0 N0 none (KnP Try.prog w0 N0) (⟨some d, .len false x, none⟩ :: ios) (st n l hp nx ck) k Q := by
 cases hF.qu with
 | lit a hq hl h1 hn => subst hq; exact zbl hx rfl go
 | gen hl hd h1 hn => exact zbl hx rfl go
 | nil hq => subst hq; exact zbl hx rfl go
theorem zv6 {d2 a : Nat} {qs : List Nat} {x : Arg} (hF : Fq o (a :: qs) qv hp nx) (hx : zb6 x l = some qv) (go : ∀ p, Om Try.prog w0 N0 none (KnP Try.prog w0 N0) ios (st n ((d2, .int .i64 (a : Nat)) :: (d, p) :: l) hp nx ck) k Q) :
  Om Try.prog w0 N0 none (KnP Try.prog w0 N0) (⟨some d, .idxs 1 x (.c (.int .i64 0)), none⟩ :: ⟨some d2, .load none (.t d), none⟩ :: ios) (st n l hp nx ck) k Q := by
 have ht : ∀ p : AV, zb6 (.t d) ((d, p) :: l) = some p := fun p => by
  show zcs d ((d, p) :: l) = some p
  rw [zcs, y2a]
 cases hF.qu with
 | @lit id sp a2 hq hl h1 hn =>
  injection hq with hq _
  subst hq
  refine zax hx rfl (y1e 0) (by decide) ?_
  exact zap (id := id) (sp := sp) (off := 0) (ht _) hl hn rfl (go _)
 | @gen id sp off cs hl hd h1 hn =>
  refine zax hx rfl (y1e 0) (by rw [y0r]; omega) ?_
  refine zap (id := id) (sp := sp) (off := off + 0 * 1) (ht _) hl hn ?_ (go _)
  have := congrArg (fun l => l[0]?) hd
  simp only [y19] at this
  rw [show off + 0 * 1 = off + 0 by omega, this]
  rfl
 | nil hq => cases hq
theorem o_qapp {bytes j sj v : Nat} {z : List AV} {s x : Arg} (hF : Fq o q qv hp nx) (hne : q ≠ []) (hlen : q.length ≤ 1000000) (hs : zb6 s l = some qv) (hx : zb6 x l = some (.ms j sj 1 0 1 (some 1))) (hj : Am.look j hp = some (sj, .cells [.int .i64 (v : Nat)])) (hb : bytes ≤ 16777216)
  (go : ∀ qv' hp' nx' ck', Fq o (q ++ [v]) qv' hp' nx' → Om Try.prog w0 N0 none (KnP Try.prog w0 N0) ios (st n ((d, qv') :: l) hp' nx' ck') k Q) :
  Om Try.prog w0 N0 none (KnP Try.prog w0 N0) (⟨some d, .append 1 bytes z s x, none⟩ :: ios) (st n l hp nx ck) k Q := by
 have hel : (st n l hp nx ck []).elems 1 (.ms j sj 1 0 1 (some 1)) = some [[.int .i64 (v : Nat)]] := zcv (xs := [[.int .i64 (v : Nat)]]) (ys := []) hj rfl fun x hx => by obtain rfl := y0f.1 hx; rfl
 have hn1 := hF.nx1
 cases hF.qu with
 | @lit id sp a hq hl h1 hn =>
  subst hq
  have hi : iop (st n l hp nx ck) (.append 1 bytes z s x) = some (.ms nx ck 1 0 2 none, st n l ((nx, ck, .cells (iN [a, v])) :: hp) (nx + 1) (ck + 1)) := by
   simp only [iop, zaq, hs, hx, hel]
   unfold zbg
   rw [if_neg (show ¬ [[AV.int .i64 (v : Nat)]].length = 0 from y24 0), if_pos (show [[AV.int .i64 (v : Nat)]].flatten.all AV.isCell = true ∧ bytes ≤ 16777216 from ⟨rfl, hb⟩)]
   simp only [show (st n l hp nx ck []).heap = hp from rfl, hl]
   rw [if_pos (show True ∧ True ∧ 0 + 1 * 1 ≤ (iN [a]).length ∧ 1 + [[AV.int .i64 (v : Nat)]].length ≤ 1048576 from ⟨trivial, trivial, y0c 1, (by show 2 ≤ 1048576; decide)⟩), if_neg (show ¬ 1 + [[AV.int .i64 (v : Nat)]].length ≤ 1 from (by show ¬ 2 ≤ 1; decide))]
   rfl
  refine zdt hi (go _ _ _ _ ⟨by rw [za3, if_neg (by omega)]; exact hF.out, by omega, ?_⟩) (fun _ _ _ _ _ _ _ => rfl)
  exact .gen (q := [a, v]) (off := 0) zah rfl (by omega) (by omega)
 | @gen id sp off cs hl hd h1 hn =>
  have e1 : cs.length - off = q.length := by rw [← y2s, hd, iN_len]
  have e2 := List.length_pos_iff.2 hne
  refine zmt [[.int .i64 (v : Nat)]] hs hx hel (y24 0) rfl hb hl (by omega) (by show q.length + 1 ≤ 1048576; omega) ?_ (fun _ _ _ _ _ _ _ => rfl)
  refine go _ _ _ _ ⟨by rw [za4, if_neg h1]; exact hF.out, hn1, ?_⟩
  have e3 : (cs.drop off).take (q.length * 1) ++ [[AV.int .i64 (v : Nat)]].flatten = iN (q ++ [v]) := by
   rw [hd, y2o (by rw [iN_len]; omega)]
   unfold iN
   rw [y1u]
   rfl
  rw [e3]
  have := QV.gen (hp := zbu id (ck, .cells (iN (q ++ [v]))) hp) (nx := nx) (q := q ++ [v]) (id := id) (sp := ck) (off := 0) (cs := iN (q ++ [v])) (by rw [za4, if_pos rfl]) rfl h1 hn
  rw [y0l] at this
  exact this
 | nil hq => exact absurd hq hne
theorem o_qcut {a : Nat} {qs : List Nat} {x : Arg} (hF : Fq o (a :: qs) qv hp nx) (hx : zb6 x l = some qv) (go : ∀ qv', Fq o qs qv' hp nx → Om Try.prog w0 N0 none (KnP Try.prog w0 N0) ios (st n ((d, qv') :: l) hp nx ck) k Q) :
  Om Try.prog w0 N0 none (KnP Try.prog w0 N0) (⟨some d, .slsl 1 x (some (.c (.int .i64 1))) none none, none⟩ :: ios) (st n l hp nx ck) k Q := by
 cases hF.qu with
 | @lit id sp a2 hq hl h1 hn =>
  injection hq with _ hq
  refine o_slsl (lv := some (.int .i64 1)) (hv := none) (lo := 1) (hh := ((1 : Nat) : Int)) hx rfl rfl rfl rfl (by decide) (by decide) (by decide) (go _ ⟨hF.out, hF.nx1, .nil hq⟩)
 | @gen id sp off cs hl hd h1 hn =>
  refine o_slsl (lv := some (.int .i64 1)) (hv := none) (lo := 1) (hh := (((a :: qs).length : Nat) : Int)) hx rfl rfl rfl rfl (by decide) (by rw [y0r]; omega) (y1e _) (go _ ⟨hF.out, hF.nx1, ?_⟩)
  have := QV.gen (hp := hp) (nx := nx) (q := qs) (id := id) (sp := sp) (off := off + 1) (cs := cs) hl (by rw [← List.drop_drop, hd]; rfl) h1 hn
  exact this
 | nil hq => cases hq
end
def b34_2 : IC := .seq (.region [oM 31 (.bin .lss (.t 30) (.t 29))] none)
 (.seq (.cond (.t 31) (.skip)
 (.exit 2))
 (.seq (.block 3 (.seq (.region [oM 32 (.idxs 1 (.t 28) (.t 30)),
  oN 33 32,
  oT 8 33] none)
 (.seq (.region [oT 34 5,
  oT 35 8,
  oM 36 (.idxs 1 (.t 34) (.t 35)),
  oN 37 36,
  oM 38 (.bin .lss (.t 37) (.c (.int .i64 0)))] none)
 (.cond (.t 38) (.seq (.region [oT 39 5,
  oT 40 8,
  oT 41 5,
  oT 42 6,
  oM 43 (.idxs 1 (.t 42) (.c (.int .i64 0))),
  oN 44 43,
  oM 45 (.idxs 1 (.t 41) (.t 44)),
  oN 46 45,
  oM 47 (.bin .add (.t 46) (.c (.int .i64 1))),
  oM 48 (.idxs 1 (.t 39) (.t 40)),
  ⟨none, .store 1 (.t 48) (.t 47), none⟩] none)
 (.region [oT 49 6,
  oT 50 8,
  oM 51 (.bslice 1 1 [.int .i64 0] [(0, 1, (.t 50))]),
  oM 52 (.append 1 8 [.int .i64 0] (.t 49) (.t 51)),
  oT 6 52] none))
 (.skip)))))
 (.region [oM 53 (.bin .add (.t 30) (.c (.int .i64 1))),
  oT 30 53] none)))
def b34_0 : IC := .seq (.seq (.region [oT 18 6,
  oM 19 (.len false (.t 18)),
  oM 20 (.bin .gtr (.t 19) (.c (.int .i64 0)))] none)
 (.cond (.t 20) (.skip)
 (.exit 0)))
 (.seq (.block 1 (.seq (.region [oT 23 0,
  oT 24 6,
  oM 25 (.idxs 1 (.t 24) (.c (.int .i64 0))),
  oN 26 25,
  oM 27 (.idxs 1 (.t 23) (.t 26)),
  oN 28 27,
  oM 29 (.len false (.t 28)),
  oM 30 (.mov (.c (.int .i64 0)))] none)
 (.block 2 (.loop b34_2))))
 (.region [oT 21 6,
  oM 22 (.slsl 1 (.t 21) (some (.c (.int .i64 1))) none none),
  oT 6 22] none))
-- (pneumatic/digraph.net).far
def ic34 : IC := .seq (.region [oM 4 (.mov (.c (.nils)))] none)
 (.seq (.region [oM 9 (.bslice 1 1 [.int .i64 0] [(0, 1, (.c (.int .i64 (-1))))]),
  oT 10 0,
  oM 11 (.len false (.t 10)),
  oM 12 (.call (.c (.fn 58 [] [])) [(.t 9), (.t 11)]),
  oT 5 12] none)
 (.seq (.region [oT 13 5,
  oT 14 1,
  oM 15 (.idxs 1 (.t 13) (.t 14)),
  ⟨none, .store 1 (.t 15) (.c (.int .i64 0)), none⟩] none)
 (.seq (.seq (.region [oT 16 1,
  oM 17 (.bslice 1 1 [.int .i64 0] [(0, 1, (.t 16))]),
  oT 6 17] none)
 (.block 0 (.loop b34_0)))
 (.seq (.region [oT 54 5,
  oT 4 54] none)
 (.ret)))))
theorem fn34 : env0.fn 34 = some ⟨55, ic34, [.t 4]⟩ := by kernel_rfl
theorem gI_get {o : List Int} {v : Nat} (h : v < o.length) : (o.map (AV.int .i64))[v]? = some (.int .i64 (gI o v)) := by
 unfold gI
 rw [y0d, y0b, y07 h]
 rfl
theorem ze8 : ∀ l : List Int, flat.flatL (l.map (AV.int .i64)) = true
 | [] => rfl
 | z :: l => by
  rw [y16]
  show (flat (AV.int .i64 z) && flat.flatL (l.map (AV.int .i64))) = true
  rw [ze8 l]
  rfl
theorem unl_le (o : List Int) : unl o ≤ o.length := y1m ..
def t48 (E : List (Nat × Nat)) (m : Nat) (qv : AV) (l : List Nat) (i : Nat) : List (Nat × AV) := [(0, cN E m), (5, .ms 1 2 1 0 m (some m)), (6, qv), (28, vN l), (29, .int .i64 ((l.map fun w => ([.int .i64 (w : Nat)] : List AV)).length : Nat)), (30, .int .i64 (i : Nat))]
set_option maxHeartbeats 4000000 in
theorem far48 (m : Nat) (hm : m ≤ 12) (E : List (Nat × Nat)) (hb : ∀ u v, (u, v) ∈ E → u < m ∧ v < m) (f : Nat) (hf : f < m) : PF Try.prog 34 [cN E m, .int .i64 (f : Nat)] (vsI (zet E m f m)) := by
 have ez : ∀ o : Nat, 0 + ((o : Nat) : Int).toNat * 1 = o := fun o => by simp
 have hlen : ((List.range m).map fun v => ([vN (nbr E m v)] : List AV)).length = m := by rw [y04, y0m]
 have hb2 := fun u v h => (hb u v h).2
 refine zaw env0_ok fn34 [(0, cN E m), (1, .int .i64 (f : Nat))] (by show 2 ≤ 55; decide) rfl fun w0 N0 => ?_
 unfold ic34
 refine zcc [] [] [(0, cN E m), (1, .int .i64 (f : Nat))] rfl .nil .nil (.cons rfl (.same rfl) (.cons rfl (.same rfl) .nil)) ?_
 repeat (first | refine za7 ?_ | refine za0 rfl ?_ | refine za8 ?_ | refine za5 ?_ | refine za1 rfl ?_ | refine zbl rfl rfl ?_ | refine zbi rfl rfl ?_)
 rw [hlen]
 refine o_own rfl rfl (repeat61 hm) (ze8 _) ?_
 repeat (first | refine za7 ?_ | refine za0 rfl ?_ | refine za8 ?_ | refine za5 ?_ | refine za1 rfl ?_ | refine zax rfl rfl (by omega) (by omega) ?_)
 rw [ez]
 refine zbj (id := 1) (sp := 2) (off := f) rfl rfl rfl rfl (by simp; exact hf) rfl ?_
 repeat (first | refine za7 ?_ | refine za0 rfl ?_ | refine za8 ?_ | refine za5 ?_ | refine zac ?_ | refine za1 rfl ?_ | refine zbi rfl rfl ?_)
 have hF0 : Fq ((List.replicate m (-1 : Int)).set f 0) [f] (.ms 2 3 1 0 1 (some 1)) ((2, 3, .cells [.int .i64 (f : Nat)]) :: zbu 1 (2, .cells (((List.replicate m (-1 : Int)).map (AV.int .i64)).set f (.int .i64 0))) [(1, 2, .cells ((List.replicate m (-1 : Int)).map (AV.int .i64))), (0, 1, .cells [.int .i64 (-1)])]) 3 :=
  ⟨by rw [za3, if_neg (by decide), za4, if_pos rfl, ← List.map_set], by decide, .lit f rfl zah (by decide) (by decide)⟩
 have hu0 := unl_le ((List.replicate m (-1 : Int)).set f 0)
 rw [y1n, y1j] at hu0
 refine zb8 (fun mm S => ∃ o q qv hp nx ck, mm = 2 * unl o + q.length ∧ mm ≤ 100 ∧ Bfs E m f o q ∧ Fq o q qv hp nx ∧ S = st 55 [(0, cN E m), (5, .ms 1 2 1 0 m (some m)), (6, qv)] hp nx ck) (2 * unl ((List.replicate m (-1 : Int)).set f 0) + 1)
  (za9 (.cons rfl (.cons rfl (.cons rfl .nil)))) ⟨_, _, _, _, _, _, rfl, by omega, Bfs.start E hf, hF0, rfl⟩ ?_
 rintro mm S ⟨o, q, qv, hp, nx, ck, rfl, hmm, hB, hF, rfl⟩
 unfold b34_0
 repeat (first | refine za7 ?_ | refine za0 rfl ?_ | refine za1 rfl ?_)
 refine o_qlen hF rfl ?_
 refine zam rfl rfl rfl (fun h3 => ?_) fun h3 => ?_
 ·obtain ⟨a, qs, rfl⟩ : ∃ a qs, q = a :: qs := by
   cases q with
   | nil => exact absurd (of_decide_eq_true h3) (by decide)
   | cons a qs => exact ⟨a, qs, rfl⟩
  have ha0 := hB.inq a (y08 ..)
  have ham : a < m := hB.len ▸ gI_lt ha0
  have halt := zmn hB.len hB.down a
  have hga : ((List.range m).map fun v => ([vN (nbr E m v)] : List AV))[((a : Nat) : Int).toNat]? = some [vN (nbr E m a)] := by
   rw [y0t, y0d, y1c ham]
   rfl
  have hmem : ∀ v, v ∈ nbr E m a ↔ (a, v) ∈ E := fun v => zbx hb2
  have hmN : ∀ v ∈ nbr E m a, v < m := fun v hv => hb2 _ _ ((hmem v).1 hv)
  obtain ⟨o9, new9, e9, hB9, hm9, _⟩ := hB.step hmem hmN
  have hvf := fun i => zqt (d := gI o a + 1) (by omega) o qs ((nbr E m a).take i) fun v hv => by rw [hB.len]; exact hmN v (y1q hv)
  have hbig : (nbr E m a).length ≤ m := by
   unfold nbr
   refine y0w (y1m ..) ?_
   rw [y0m]
   exact y0c _
  generalize nbr E m a = l at *
  repeat (first | refine za7 ?_ | refine za0 rfl ?_ | refine za8 ?_ | refine za5 ?_ | refine zac ?_ | refine zae ?_ | refine zbz rfl ?_ | refine za1 rfl ?_)
  refine zv6 hF rfl fun p => ?_
  repeat (first | refine za8 ?_ | refine za5 ?_ | refine zac ?_ | refine za1 rfl ?_ | refine zag rfl rfl ?_ | refine zbl rfl rfl ?_ | refine zb1 rfl rfl (by omega) (by assumption) rfl ?_)
  refine zb8 (fun mm S => ∃ i o' new qv hp nx ck, mm = l.length - i ∧ i ≤ l.length ∧ (l.take i).foldl (vis (gI o a + 1)) (o, qs) = (o', qs ++ new) ∧ Fq o' (a :: (qs ++ new)) qv hp nx ∧ S = st 55 (t48 E m qv l i) hp nx ck) l.length
   (za9 (.cons rfl (.cons rfl (.cons rfl (.cons rfl (.cons rfl (.cons rfl .nil))))))) ⟨0, o, [], _, _, _, _, rfl, y0s _, by rw [y18]; rfl, by rw [y18]; exact hF, rfl⟩ ?_
  rintro mm S ⟨i, o', new, qv, hp, nx, ck, rfl, hi, hfo, hF, rfl⟩
  unfold b34_2 t48
  repeat (first | refine za7 ?_ | refine za0 rfl ?_)
  obtain ⟨o2, new2, e2, hx⟩ := hvf i
  obtain ⟨rfl, hnn⟩ : o' = o2 ∧ qs ++ new = qs ++ new2 := by rw [hfo] at e2; exact ⟨congrArg Prod.fst e2, congrArg Prod.snd e2⟩
  obtain rfl := List.append_cancel_left hnn
  have hol : o'.length = m := hx.len.trans hB.len
  have hcnt := hx.cnt
  rw [y0r] at hmm
  refine zam rfl rfl rfl (fun h4 => ?_) fun h4 => ?_
  ·have hlt : i < l.length := by
    have h5 : ((i : Nat) : Int) < (((l.map fun w => ([.int .i64 (w : Nat)] : List AV)).length : Nat) : Int) := of_decide_eq_true h4
    rw [y04] at h5
    exact y0x.1 h5
   have w1 : IntKind.wrap .i64 (((i : Nat) : Int) + 1) = ((i + 1 : Nat) : Int) := zab i (by omega)
   have hgv : (l.map fun w => ([.int .i64 (w : Nat)] : List AV))[((i : Nat) : Int).toNat]? = some [.int .i64 (l[i] : Nat)] := by
    rw [y0t, y0d, y07 hlt]
    rfl
   have hvm := hmN l[i] (y0z hlt)
   have hfs : (l.take (i + 1)).foldl (vis (gI o a + 1)) (o, qs) = vis (gI o a + 1) (o', qs ++ new) l[i] := by
    rw [y2b, y07 hlt]
    show (l.take i ++ [l[i]]).foldl _ _ = _
    rw [y1y, hfo]
    rfl
   generalize l[i] = v at *
   have hva : gI o' a = gI o a := hx.old a ha0
   repeat (first | refine za7 ?_ | refine za0 rfl ?_ | refine za8 ?_ | refine za5 ?_ | refine zac ?_ | refine zae ?_ | refine zbz rfl ?_ | refine za1 rfl ?_ | refine zag rfl rfl ?_ | refine zb1 rfl rfl (by omega) (by assumption) rfl ?_ | refine zax rfl rfl (by omega) (by omega) ?_)
   rw [ez]
   refine zap (id := 1) (sp := 2) (off := v) rfl hF.out hF.nx1 (gI_get (by omega)) ?_
   refine zam rfl rfl rfl (fun h5 => ?_) fun h5 => ?_
   ·have h5 : gI o' v < 0 := of_decide_eq_true h5
    have w2 : IntKind.wrap .i64 (gI o a + 1) = gI o a + 1 := zd8 _ (by omega) (by omega)
    have hv1 : vis (gI o a + 1) (o', qs ++ new) v = (o'.set v (gI o a + 1), qs ++ new ++ [v]) := if_pos h5
    rw [hv1] at hfs
    repeat (first | refine za7 ?_ | refine za0 rfl ?_ | refine za8 ?_ | refine za5 ?_ | refine zbz rfl ?_ | refine za1 rfl ?_)
    refine zv6 hF rfl fun p => ?_
    repeat (first | refine zax rfl rfl (by omega) (by omega) ?_)
    rw [ez]
    refine zap (id := 1) (sp := 2) (off := a) rfl hF.out hF.nx1 (gI_get (by omega)) ?_
    rw [hva]
    repeat (first | refine zav (op := .add) rfl rfl rfl ?_ | refine zax rfl rfl (by omega) (by omega) ?_)
    rw [ez, w2]
    refine zbj (id := 1) (sp := 2) (off := v) rfl rfl rfl hF.out (by simp; omega) rfl ?_
    repeat (first | refine za0 rfl ?_ | refine za8 ?_ | refine za5 ?_ | refine za1 rfl ?_ | refine zbi rfl rfl ?_)
    have hF2 := (hF.set v (gI o a + 1)).fresh ck (.cells [.int .i64 (v : Nat)])
    refine o_qapp hF2 (List.cons_ne_nil _ _) (by rw [y0r, y0l]; rw [y0l] at hm9; omega) rfl rfl zah (by decide) fun qv' hp' nx' ck' hF' => ?_
    repeat (first | refine za0 rfl ?_ | refine za8 ?_ | refine za5 ?_ | refine zbd ?_ | refine za1 rfl ?_ | refine zav (op := .add) rfl rfl rfl ?_)
    rw [w1]
    refine zal (show l.length - (i + 1) < l.length - i by omega) (za9 (.cons rfl (.cons rfl (.cons rfl (.cons rfl (.cons rfl (.cons rfl .nil))))))) ⟨i + 1, _, new ++ [v], _, _, _, _, rfl, hlt, by rw [hfs, y26], ?_, rfl⟩
    rw [← y26]
    exact hF'
   ·have h5 : ¬ gI o' v < 0 := of_decide_eq_false h5
    have hv1 : vis (gI o a + 1) (o', qs ++ new) v = (o', qs ++ new) := if_neg h5
    rw [hv1] at hfs
    repeat (first | refine za0 rfl ?_ | refine za8 ?_ | refine za5 ?_ | refine zbd ?_ | refine zae ?_ | refine zbn rfl ?_ | refine za1 rfl ?_ | refine zav (op := .add) rfl rfl rfl ?_)
    rw [w1]
    exact zal (show l.length - (i + 1) < l.length - i by omega) (za9 (.cons rfl (.cons rfl (.cons rfl (.cons rfl (.cons rfl (.cons rfl .nil))))))) ⟨i + 1, _, new, _, _, _, _, rfl, hlt, hfs, hF, rfl⟩
  ·have hie : i = l.length := by
    have h5 : ¬ ((i : Nat) : Int) < (((l.map fun w => ([.int .i64 (w : Nat)] : List AV)).length : Nat) : Int) := of_decide_eq_false h4
    rw [y04] at h5
    omega
   subst hie
   rw [y1f, e9] at hfo
   obtain ⟨rfl, hnn⟩ : o9 = o' ∧ qs ++ new9 = qs ++ new := ⟨congrArg Prod.fst hfo, congrArg Prod.snd hfo⟩
   obtain rfl := List.append_cancel_left hnn
   repeat (first | refine za7 ?_ | refine za8 ?_ | refine za5 ?_ | refine zbn rfl ?_ | refine zbb ?_ | refine zad ?_)
   refine zby ?_
   repeat (first | refine za0 rfl ?_ | refine za5 ?_ | refine zbd ?_ | refine zb7 ?_ | refine za1 rfl ?_)
   refine o_qcut hF rfl fun qv' hF' => ?_
   repeat (first | refine za8 ?_ | refine za1 rfl ?_)
   exact zal hm9 (za9 (.cons rfl (.cons rfl (.cons rfl .nil)))) ⟨_, _, _, _, _, _, rfl, by rw [y0r] at hm9; omega, hB9, hF', rfl⟩
 ·obtain rfl : q = [] := by
   cases q with
   | nil => rfl
   | cons a qs =>
    have h4 : ¬ (((a :: qs).length : Nat) : Int) > 0 := of_decide_eq_false h3
    rw [y0r] at h4
    omega
  have he := hB.end.unique (zek hf hb2)
  subst he
  repeat (first | refine za8 ?_ | refine za5 ?_ | refine zbn rfl ?_ | refine zbb ?_ | refine zad ?_)
  refine zby ?_
  repeat (first | refine za7 ?_ | refine za0 rfl ?_ | refine za8 ?_ | refine za5 ?_ | refine zau ?_ | refine zb7 ?_ | refine za1 rfl ?_)
  refine zao ⟨.inr rfl, _, rfl, ?_⟩
  exact zce _ (by have := hB.len; exact this) hF.out
-- pneumatic/pneumaticref10.Vertex
def ic48 : IC := .seq (.region [oM 2 (.box (.t 0)),
  oM 4 (.mov (.c (.bool false)))] none)
 (.seq (.region [oT 5 1,
  oM 6 (.bin .geq (.t 5) (.c (.int .i64 0))),
  oT 7 6,
  ⟨(some 8), .mov (.t 1), some (7, true)⟩,
  ⟨(some 9), .faddr 0 (.t 2), some (7, true)⟩,
  ⟨(some 10), .load none (.t 9), some (7, true)⟩,
  ⟨(some 11), .bin .lss (.t 8) (.t 10), some (7, true)⟩,
  oM 12 (.pick (.t 7) (.t 11) (.c (.bool false))),
  oT 4 12] none)
 (.ret))
theorem fn48 : env0.fn 48 = some ⟨13, ic48, [.t 4]⟩ := by kernel_rfl
def b26_0 : IC := .seq (.seq (.region [oT 16 3,
  oF 17 1 1,
  oN 18 17,
  oM 19 (.len false (.t 18)),
  oM 20 (.bin .lss (.t 16) (.t 19))] none)
 (.cond (.t 20) (.skip)
 (.exit 0)))
 (.seq (.block 1 (.seq (.region [oL 23 2 1,
  oF 24 1 1,
  oN 25 24,
  oT 26 3,
  oM 27 (.idxs 2 (.t 25) (.t 26)),
  oF 28 0 27,
  oN 29 28,
  oM 30 (.call (.c (.fn 48 [] [])) [(.t 23), (.t 29)]),
  oM 31 (.un .not (.t 30)),
  oT 32 31,
  ⟨(some 33), .load (some 2) (.t 1), some (32, false)⟩,
  ⟨(some 34), .faddr 1 (.t 1), some (32, false)⟩,
  ⟨(some 35), .load none (.t 34), some (32, false)⟩,
  ⟨(some 36), .mov (.t 3), some (32, false)⟩,
  ⟨(some 37), .idxs 2 (.t 35) (.t 36), some (32, false)⟩,
  ⟨(some 38), .faddr 1 (.t 37), some (32, false)⟩,
  ⟨(some 39), .load none (.t 38), some (32, false)⟩,
  ⟨(some 40), .call (.c (.fn 48 [] [])) [(.t 33), (.t 39)], some (32, false)⟩,
  ⟨(some 41), .un .not (.t 40), some (32, false)⟩,
  oM 42 (.pick (.t 32) (.c (.bool true)) (.t 41))] (some [[], [], [1], [], [2, 3], [4], [5], [0, 6], [7], [8, 7], [9], [9], [11, 9], [9], [12, 13, 9], [14, 9], [15, 9], [10, 16, 9, 9], [17, 9], [9, 18]]))
 (.cond (.t 42) (.seq (.region [oM 2 (.mov (.c (.int .i64 2)))] none)
 (.ret))
 (.skip))))
 (.region [oT 21 3,
  oM 22 (.bin .add (.t 21) (.c (.int .i64 1))),
  oT 3 22] none))
-- pneumatic/pneumaticref10.Check
def ic26 : IC := .seq (.region [oM 1 (.box (.t 0)),
  oM 2 (.mov (.c (.int .i64 0)))] none)
 (.seq (.seq (.region [oF 4 0 1,
  oN 5 4,
  oM 6 (.bin .lss (.t 5) (.c (.int .i64 0))),
  oT 7 6,
  ⟨(some 8), .faddr 0 (.t 1), some (7, false)⟩,
  ⟨(some 9), .load none (.t 8), some (7, false)⟩,
  ⟨(some 10), .bin .gtr (.t 9) (.c (.int .i64 256)), some (7, false)⟩,
  oM 11 (.pick (.t 7) (.c (.bool true)) (.t 10))] none)
 (.cond (.t 11) (.seq (.region [oM 2 (.mov (.c (.int .i64 2)))] none)
 (.ret))
 (.skip)))
 (.seq (.seq (.region [oF 12 1 1,
  oN 13 12,
  oM 14 (.len false (.t 13)),
  oM 15 (.bin .gtr (.t 14) (.c (.int .i64 4096)))] none)
 (.cond (.t 15) (.seq (.region [oM 2 (.mov (.c (.int .i64 5)))] none)
 (.ret))
 (.skip)))
 (.seq (.seq (.region [oM 3 (.mov (.c (.int .i64 0)))] none)
 (.block 0 (.loop b26_0)))
 (.seq (.region [oM 2 (.mov (.c (.int .i64 0)))] none)
 (.ret)))))
theorem fn26 : env0.fn 26 = some ⟨43, ic26, [.t 2]⟩ := by kernel_rfl
theorem zqq (n : Int) (es : List (Int × Int)) (v : Int) : PF Try.prog 48 [cG n es, .int .i64 v] (.bool (!zg2 n v)) := by
 refine zaw env0_ok fn48 [(0, .agg [.int .i64 n, .vs (cE es)]), (1, .int .i64 v)] (by show 2 ≤ 13; decide) rfl fun w0 N0 => ?_
 unfold ic48
 refine zsr rfl (zd6 rfl rfl (za1 rfl (onu ?_)))
 refine zcc [] [(0, 0, [.int .i64 n, .vs (cE es)])] [(1, .int .i64 v), (2, .vptr [.int .i64 n, .vs (cE es)])] rfl (.cons rfl rfl .nil) .nil (.cons rfl (.same rfl) (.cons rfl (.fptr rfl rfl) .nil)) ?_
 unfold zg2
 repeat (first | refine za7 ?_ | refine za0 rfl ?_ | refine za1 rfl ?_)
 refine zam rfl rfl rfl (fun h5 => ?_) fun h5 => ?_
 ·have h5 : v ≥ 0 := of_decide_eq_true h5
  repeat (first | refine ze4 rfl ?_ | refine za1 rfl ?_ | refine zag rfl rfl ?_ | refine zaz rfl rfl rfl ?_)
  refine zam rfl rfl rfl (fun h6 => ?_) fun h6 => ?_
  ·have h6 : v < n := of_decide_eq_true h6
   repeat (first | refine za8 ?_ | refine za5 ?_ | refine zau ?_ | refine za1 rfl ?_ | refine zb9 rfl rfl ?_)
   exact zao ⟨.inr rfl, _, rfl, by rw [decide_eq_false (by omega), decide_eq_false (by omega)]; rfl⟩
  ·have h6 : ¬ v < n := of_decide_eq_false h6
   repeat (first | refine za8 ?_ | refine za5 ?_ | refine zau ?_ | refine za1 rfl ?_ | refine zb9 rfl rfl ?_)
   exact zao ⟨.inr rfl, _, rfl, by rw [decide_eq_false (by omega), decide_eq_true (by omega)]; rfl⟩
 ·have h5 : ¬ v ≥ 0 := of_decide_eq_false h5
  repeat (first | refine za8 ?_ | refine za5 ?_ | refine zau ?_ | refine zgo rfl rfl ?_ | refine za1 rfl ?_ | refine zb4 rfl rfl ?_)
  exact zao ⟨.inr rfl, _, rfl, by rw [decide_eq_true (by omega)]; rfl⟩
theorem ztk {n : Int} {es : List (Int × Int)} {i : Nat} (h : i < es.length) : znp n (es.drop i) = if zg2 n es[i].1 = true then 2 else if zg2 n es[i].2 = true then 2 else znp n (es.drop (i + 1)) := by
 rw [y1o h, zma]
 unfold zjb
 rw [List.any_cons, List.any_cons, List.any_nil, Bool.or_false]
 cases zg2 n es[i].1 <;> cases zg2 n es[i].2 <;> rfl
theorem zrd {f : FuncId} {args bs : List AV} {v w : AV} {l : List (FuncId × List AV × AV)} (h : bs ≠ args) (k : zfq l f args = some w) : zfq ((f, bs, v) :: l) f args = some w := by
 simp [zfq, h, k]
set_option maxHeartbeats 2000000 in
theorem check35 (n : Int) (es : List (Int × Int)) : PF Try.prog 26 [cG n es] (.int .i64 (zf9 n es)) := by
 have hcl := zd9 es
 refine zaw env0_ok fn26 [(0, .agg [.int .i64 n, .vs (cE es)])] (by show 1 ≤ 43; decide) rfl fun w0 N0 => ?_
 unfold ic26
 refine zsr rfl (zd6 rfl rfl (za1 rfl (onu ?_)))
 refine zcc [] [(0, 0, [.int .i64 n, .vs (cE es)])] [(1, .vptr [.int .i64 n, .vs (cE es)])] rfl (.cons rfl rfl .nil) .nil (.cons rfl (.fptr rfl rfl) .nil) ?_
 repeat (first | refine za7 ?_ | refine za0 rfl ?_ | refine zag rfl rfl ?_ | refine zaz rfl rfl rfl ?_)
 refine zam rfl rfl rfl (fun h => ?_) fun h => ?_
 ·repeat (first | refine za7 ?_ | refine za0 rfl ?_ | refine za8 ?_ | refine za5 ?_ | refine zbz rfl ?_ | refine zau ?_ | refine zak ?_ | refine zgo rfl rfl ?_ | refine za1 rfl ?_ | refine zb9 rfl rfl ?_)
  exact zao ⟨.inr rfl, _, rfl, by rw [znk (of_decide_eq_true h)]; rfl⟩
 have h0 : ¬ n < 0 := of_decide_eq_false h
 repeat (first | refine ze4 rfl ?_ | refine za1 rfl ?_ | refine zag rfl rfl ?_ | refine zaz rfl rfl rfl ?_)
 refine zam rfl rfl rfl (fun h => ?_) fun h => ?_
 ·repeat (first | refine za7 ?_ | refine za0 rfl ?_ | refine za8 ?_ | refine za5 ?_ | refine zbz rfl ?_ | refine zau ?_ | refine zak ?_ | refine za1 rfl ?_ | refine zb4 rfl rfl ?_)
  exact zao ⟨.inr rfl, _, rfl, by rw [znj (of_decide_eq_true h)]; rfl⟩
 have h1 : ¬ n > 256 := of_decide_eq_false h
 repeat (first | refine za7 ?_ | refine za0 rfl ?_ | refine za8 ?_ | refine za5 ?_ | refine zae ?_ | refine zbn rfl ?_ | refine zag rfl rfl ?_ | refine zaz rfl rfl rfl ?_ | refine zb4 rfl rfl ?_ | refine zbl rfl rfl ?_)
 refine zam rfl rfl rfl (fun h => ?_) fun h => ?_
 ·have h2 : (((cE es).length : Nat) : Int) > 4096 := of_decide_eq_true h
  repeat (first | refine za7 ?_ | refine za0 rfl ?_ | refine za8 ?_ | refine za5 ?_ | refine zbz rfl ?_ | refine zau ?_ | refine zak ?_ | refine za1 rfl ?_)
  exact zao ⟨.inr rfl, _, rfl, by rw [zki h0 h1 (by omega)]; rfl⟩
 have h2 : ¬ (((cE es).length : Nat) : Int) > 4096 := of_decide_eq_false h
 rw [zsy h0 h1 (by omega)]
 repeat (first | refine za7 ?_ | refine za0 rfl ?_ | refine za8 ?_ | refine za5 ?_ | refine zac ?_ | refine zae ?_ | refine zbn rfl ?_ | refine za1 rfl ?_)
 refine zb8 (fun mm S => ∃ i, mm = es.length - i ∧ i ≤ es.length ∧ znp n (es.drop i) = znp n es ∧ S = st 43 [(1, .vptr [.int .i64 n, .vs (cE es)]), (3, .int .i64 (i : Nat))] [] 0 1) es.length
  (za9 (.cons rfl (.cons rfl .nil))) ⟨0, rfl, y0s _, rfl, rfl⟩ ?_
 rintro mm S ⟨i, rfl, hi, hv, rfl⟩
 unfold b26_0
 repeat (first | refine za7 ?_ | refine za0 rfl ?_ | refine za1 rfl ?_ | refine zag rfl rfl ?_ | refine zaz rfl rfl rfl ?_ | refine zbl rfl rfl ?_)
 refine zam rfl rfl rfl (fun h3 => ?_) fun h3 => ?_
 ·have hlt : i < es.length := by
   have h4 : ((i : Nat) : Int) < (((cE es).length : Nat) : Int) := of_decide_eq_true h3
   omega
  have w1 : IntKind.wrap .i64 (((i : Nat) : Int) + 1) = ((i + 1 : Nat) : Int) := zab i (by omega)
  have hg := zp4 hlt
  have hs := ztk (n := n) hlt
  have pa := zqq n es es[i].1
  have pb := zqq n es es[i].2
  generalize es[i].1 = a at *
  generalize es[i].2 = b at *
  repeat (first | refine za7 ?_ | refine za8 ?_ | refine za5 ?_ | refine zac ?_ | refine zae ?_ | refine zbz rfl ?_)
  refine zoq env0_ok [(48, [cG n es, .int .i64 a], .bool (!zg2 n a)), (48, [cG n es, .int .i64 b], .bool (!zg2 n b))] (fun x hx => by
   rcases y0n.1 hx with rfl | hx
   ·exact pa
   obtain rfl := y0f.1 hx
   exact pb) (fun f => Nat.beq f 48) rfl rfl rfl ?_
  have lkb : zfq [(48, [cG n es, .int .i64 a], .bool (!zg2 n a)), (48, [cG n es, .int .i64 b], .bool (!zg2 n b))] 48 [cG n es, .int .i64 b] = some (.bool (!zg2 n b)) := by
   by_cases hab : a = b
   ·subst hab
    exact ze9
   ·exact zrd (fun e => hab (by simpa using e)) ze9
  repeat (first | refine za1 rfl ?_ | refine zag rfl rfl ?_ | refine zb3 rfl rfl rfl rfl ?_ | refine zaz rfl rfl rfl ?_ | refine zb1 rfl rfl (by omega) (by assumption) rfl ?_)
  refine zat rfl rfl ze9 noC ?_
  cases ea : zg2 n a with
  | true =>
   rw [ea, if_pos rfl, hv] at hs
   repeat (first | refine za7 ?_ | refine za0 rfl ?_ | refine za8 ?_ | refine za5 ?_ | refine zbz rfl ?_ | refine zau ?_ | refine zak ?_ | refine zbf ?_ | refine zgo rfl rfl ?_ | refine za1 rfl ?_ | refine zb9 rfl rfl ?_ | refine o_un rfl rfl ?_)
   exact zao ⟨.inr rfl, _, rfl, by rw [hs]; rfl⟩
  | false =>
   rw [ea, if_neg Bool.false_ne_true] at hs
   rw [ea] at lkb
   repeat (first | refine ze4 rfl ?_ | refine za1 rfl ?_ | refine zag rfl rfl ?_ | refine zb3 rfl rfl rfl rfl ?_ | refine zaz rfl rfl rfl ?_ | refine o_un rfl rfl ?_ | refine zb1 rfl rfl (by omega) (by assumption) rfl ?_)
   refine zat rfl rfl lkb noC ?_
   cases eb : zg2 n b with
   | true =>
    rw [eb, if_pos rfl, hv] at hs
    repeat (first | refine za7 ?_ | refine za0 rfl ?_ | refine za8 ?_ | refine za5 ?_ | refine zbz rfl ?_ | refine zau ?_ | refine zak ?_ | refine zbf ?_ | refine ze4 rfl ?_ | refine za1 rfl ?_ | refine zb4 rfl rfl ?_ | refine o_un rfl rfl ?_)
    exact zao ⟨.inr rfl, _, rfl, by rw [hs]; rfl⟩
   | false =>
    rw [eb, if_neg Bool.false_ne_true, hv] at hs
    repeat (first | refine za0 rfl ?_ | refine za8 ?_ | refine za5 ?_ | refine zbd ?_ | refine zae ?_ | refine zbn rfl ?_ | refine ze4 rfl ?_ | refine za1 rfl ?_ | refine zb4 rfl rfl ?_ | refine o_un rfl rfl ?_ | refine zav (op := .add) rfl rfl rfl ?_)
    rw [w1]
    exact zal (show es.length - (i + 1) < es.length - i by omega) (za9 (.cons rfl (.cons rfl .nil))) ⟨i + 1, rfl, hlt, hs.symm, rfl⟩
 ·have hie : i = es.length := by
   have h4 : ¬ ((i : Nat) : Int) < (((cE es).length : Nat) : Int) := of_decide_eq_false h3
   omega
  rw [hie, List.drop_length] at hv
  repeat (first | refine za8 ?_ | refine za5 ?_ | refine zbn rfl ?_ | refine zbb ?_ | refine zad ?_)
  refine zby ?_
  repeat (first | refine za7 ?_ | refine za0 rfl ?_ | refine za8 ?_ | refine za5 ?_ | refine zau ?_ | refine zb7 ?_ | refine za1 rfl ?_)
  exact zao ⟨.inr rfl, _, rfl, by rw [← hv]; rfl⟩
def zkp (n : Int) (es : List (Int × Int)) (l : List Int) : Int := if zf9 n es = 0 then zjb n l else zf9 n es
end Go.Proofs.Ytfbeableaihooaa
namespace Go.Proofs
open Go.Shelf
def Try.lays191_ren : Go.Shelf.Ren := ⟨fun | 191 => 66 | 189 => 77 | 125 => 81 | 257 => 80 | 128 => 91 | 129 => 92 | 294 => 82 | 295 => 83 | 296 => 84 | 297 => 85 | 298 => 86 | 299 => 87 | 216 => 88 | 300 => 89 | 301 => 90 | 328 => 93 | 329 => 94 | 330 => 95 | 331 => 96 | 332 => 97 | 215 => 98 | 343 => 99 | n => n, fun | 28 => 34 | 0 => 0 | 3 => 3 | 46 => 114 | 51 => 117 | 53 => 45 | 4 => 4 | 183 => 126 | 182 => 125 | 131 => 110 | 5 => 5 | 9 => 9 | 218 => 133 | 222 => 137 | 228 => 139 | 229 => 140 | n => n, fun | n => n⟩
theorem Try.lays191 : Go.Proofs.Lays.n191 Try.prog Try.lays191_ren := {
 mixed := by kernel_rfl
 f125 := Try.func81.trans (congrArg some (by kernel_rfl))
 f128 := Try.func91.trans (congrArg some (by kernel_rfl))
 f129 := Try.func92.trans (congrArg some (by kernel_rfl))
 f189 := Try.func77.trans (congrArg some (by kernel_rfl))
 f191 := Try.func66.trans (congrArg some (by kernel_rfl))
 f215 := Try.func98.trans (congrArg some (by kernel_rfl))
 f216 := Try.func88.trans (congrArg some (by kernel_rfl))
 f257 := Try.func80.trans (congrArg some (by kernel_rfl))
 f294 := Try.func82.trans (congrArg some (by kernel_rfl))
 f295 := Try.func83.trans (congrArg some (by kernel_rfl))
 f296 := Try.func84.trans (congrArg some (by kernel_rfl))
 f297 := Try.func85.trans (congrArg some (by kernel_rfl))
 f298 := Try.func86.trans (congrArg some (by kernel_rfl))
 f299 := Try.func87.trans (congrArg some (by kernel_rfl))
 f300 := Try.func89.trans (congrArg some (by kernel_rfl))
 f301 := Try.func90.trans (congrArg some (by kernel_rfl))
 f328 := Try.func93.trans (congrArg some (by kernel_rfl))
 f329 := Try.func94.trans (congrArg some (by kernel_rfl))
 f330 := Try.func95.trans (congrArg some (by kernel_rfl))
 f331 := Try.func96.trans (congrArg some (by kernel_rfl))
 f332 := Try.func97.trans (congrArg some (by kernel_rfl))
 f343 := Try.func99.trans (congrArg some (by kernel_rfl))
 t0 := Try.underlying0
 a0 := Try.isAgg0
 z0 := Try.sizeOf0
 v0 := Try.zeroValue0
 t3 := Try.underlying3
 a3 := Try.isAgg3
 z3 := Try.sizeOf3
 v3 := Try.zeroValue3
 t4 := Try.underlying4
 a4 := Try.isAgg4
 z4 := Try.sizeOf4
 v4 := Try.zeroValue4
 t5 := Try.underlying5
 a5 := Try.isAgg5
 z5 := Try.sizeOf5
 v5 := Try.zeroValue5
 t9 := Try.underlying9
 a9 := Try.isAgg9
 z9 := Try.sizeOf9
 v9 := Try.zeroValue9
 t28 := Try.underlying34
 a28 := Try.isAgg34
 z28 := Try.sizeOf34
 v28 := Try.zeroValue34
 t46 := Try.underlying114
 a46 := Try.isAgg114
 z46 := Try.sizeOf114
 v46 := Try.zeroValue114
 t51 := Try.underlying117
 a51 := Try.isAgg117
 z51 := Try.sizeOf117
 v51 := Try.zeroValue117
 t53 := Try.underlying45
 a53 := Try.isAgg45
 z53 := Try.sizeOf45
 v53 := Try.zeroValue45
 t131 := Try.underlying110
 a131 := Try.isAgg110
 z131 := Try.sizeOf110
 v131 := Try.zeroValue110
 t182 := Try.underlying125
 a182 := Try.isAgg125
 z182 := Try.sizeOf125
 v182 := Try.zeroValue125
 t183 := Try.underlying126
 a183 := Try.isAgg126
 z183 := Try.sizeOf126
 v183 := Try.zeroValue126
 t218 := Try.underlying133
 a218 := Try.isAgg133
 z218 := Try.sizeOf133
 v218 := Try.zeroValue133
 t222 := Try.underlying137
 a222 := Try.isAgg137
 z222 := Try.sizeOf137
 v222 := Try.zeroValue137
 t228 := Try.underlying139
 a228 := Try.isAgg139
 z228 := Try.sizeOf139
 v228 := Try.zeroValue139
 t229 := Try.underlying140
 a229 := Try.isAgg140
 z229 := Try.sizeOf140
 v229 := Try.zeroValue140 }
open Go.Sort Go.RowKit in
theorem Try.sort_Ints (blk off cap : Nat) (zs : List Int) (w : World) (hH : Holds (Value.int .i64) w blk off zs.toArray) (hblk : blk < w.heap.size) (hsz : zs.length < 4611686018427387904) :
  Calls Try.prog 66 #[.slice (some ⟨blk, off, none⟩) zs.length cap] w fun e w' =>
   e = .returned (.tuple #[]) ∧ ∃ n os, w' = grow (putRow (Value.int .i64) (Sort.ahead w n) blk off (zs.mergeSort fun x y => decide (x ≤ y)).toArray) os := Any.sort_Ints Try.lays191 blk off cap zs w hH hblk hsz
def Try.laysNm220_ren : Go.Shelf.Ren := ⟨fun | 20 => 67 | n => n, fun | 22 => 34 | 3 => 3 | 4 => 4 | 0 => 0 | n => n, fun | n => n⟩
theorem Try.laysNm220 : Go.Proofs.Lays2.n20 Try.prog Try.laysNm220_ren := {
 mixed := by kernel_rfl
 f20 := Try.func67.trans (congrArg some (by kernel_rfl))
 t0 := Try.underlying0
 a0 := Try.isAgg0
 z0 := Try.sizeOf0
 v0 := Try.zeroValue0
 t3 := Try.underlying3
 a3 := Try.isAgg3
 z3 := Try.sizeOf3
 v3 := Try.zeroValue3
 t4 := Try.underlying4
 a4 := Try.isAgg4
 z4 := Try.sizeOf4
 v4 := Try.zeroValue4
 t22 := Try.underlying34
 a22 := Try.isAgg34
 z22 := Try.sizeOf34
 v22 := Try.zeroValue34
 i3 := by kernel_rfl }
open Go.RowKit Go.Lib Go.Sort in
theorem Try.slices_Compact_int (blk off cap : Nat) (zs : List Int) (w : World) (hH : Holds (Value.int .i64) w blk off zs.toArray) (hsz : zs.length ≤ 9223372036854775807) (hcap : zs.length ≤ cap) :
  Calls Try.prog 67 #[.slice (some ⟨blk, off, none⟩) zs.length cap] w fun e w' => e = .returned (.slice (some ⟨blk, off, none⟩) (Lib.compact zs).length cap) ∧ ∃ q, w' = putRow (Value.int .i64) (Sort.ahead w q) blk off (Lib.compact zs ++ List.replicate (zs.length - (Lib.compact zs).length) 0).toArray := Any.slices_Compact_int Try.laysNm220 blk off cap zs w hH hsz hcap
namespace Ytfbeableaihooaa
open Go Go.Am Go.RowKit
theorem ent64 : Ent Try.prog 66 := ztm Try.func66 rfl (by kernel_rfl)
theorem ent65 : Ent Try.prog 67 := ztm Try.func67 rfl (by kernel_rfl)
theorem sorts64 : Sorts Try.prog 66 := fun blk off cap zs w hH hb hz => Try.sort_Ints blk off cap zs w hH hb hz
theorem cpts65 : Cpts Try.prog 67 := fun blk off cap zs w hH hz hc => Try.slices_Compact_int blk off cap zs w hH hz hc
end Ytfbeableaihooaa
end Go.Proofs
namespace Go.Proofs.Ytfbeableaihooaa
open Go Go.Am
def b42_0 : IC := .seq (.region [oM 14 (.bin .lss (.t 13) (.t 12))] none)
 (.seq (.cond (.t 14) (.skip)
 (.exit 0))
 (.seq (.block 1 (.seq (.region [oM 15 (.idxs 2 (.t 11) (.t 13)),
  oL 16 2 15,
  oM 5 (.alloc [.int .i64 0, .int .i64 0]),
  ⟨none, .store 2 (.t 5) (.t 16), none⟩] none)
 (.region [oT 17 3,
  oF 18 0 5,
  oN 19 18,
  oT 20 3,
  oF 21 0 5,
  oN 22 21,
  oM 23 (.idxs 1 (.t 20) (.t 22)),
  oN 24 23,
  oF 25 1 5,
  oN 26 25,
  oM 27 (.bslice 1 1 [.int .i64 0] [(0, 1, (.t 26))]),
  oM 28 (.append 1 8 [.int .i64 0] (.t 24) (.t 27)),
  oM 29 (.idxs 1 (.t 17) (.t 19)),
  ⟨none, .store 1 (.t 29) (.t 28), none⟩] (some [[], [], [1], [], [], [4], [3, 5], [6], [], [8], [9], [7, 10], [0, 2, 0, 1, 2, 3, 4, 5, 6, 7, 8, 9, 10, 11], [12, 11, 11, 0, 1, 2, 3, 4, 5, 6, 7, 8, 9, 10, 11]]))))
 (.region [oM 30 (.bin .add (.t 13) (.c (.int .i64 1))),
  oT 13 30] none)))
def b42_2 : IC := .seq (.region [oM 34 (.bin .lss (.t 33) (.t 32))] none)
 (.seq (.cond (.t 34) (.skip)
 (.exit 2))
 (.seq (.block 3 (.seq (.region [oT 35 33,
  oT 6 35] none)
 (.seq (.region [oT 36 3,
  oT 37 6,
  oM 38 (.idxs 1 (.t 36) (.t 37)),
  oN 39 38,
  oM 40 (.call (.c (.fn 66 [] [])) [(.t 39)])] none)
 (.region [oT 41 3,
  oT 42 6,
  oT 43 3,
  oT 44 6,
  oM 45 (.idxs 1 (.t 43) (.t 44)),
  oN 46 45,
  oM 47 (.call (.c (.fn 67 [] [])) [(.t 46)]),
  oM 48 (.idxs 1 (.t 41) (.t 42)),
  ⟨none, .store 1 (.t 48) (.t 47), none⟩] none))))
 (.region [oM 49 (.bin .add (.t 33) (.c (.int .i64 1))),
  oT 33 49] none)))
-- pneumatic/digraph.joined
def ic42 : IC := .seq (.region [oM 1 (.box (.t 0)),
  oM 2 (.mov (.c (.nils)))] none)
 (.seq (.region [oF 7 0 1,
  oN 8 7,
  oM 9 (.mkslice 1 24 [.nils] (.t 8) (.t 8)),
  oT 3 9] none)
 (.seq (.seq (.region [oF 10 1 1,
  oN 11 10,
  oM 12 (.len false (.t 11)),
  oM 13 (.mov (.c (.int .i64 0)))] none)
 (.block 0 (.loop b42_0)))
 (.seq (.seq (.region [oT 31 3,
  oM 32 (.len false (.t 31)),
  oM 33 (.mov (.c (.int .i64 0)))] none)
 (.block 2 (.loop b42_2)))
 (.seq (.region [oT 50 3,
  oT 2 50] none)
 (.ret)))))
theorem fn42 : env0.fn 42 = some ⟨51, ic42, [.t 2]⟩ := by kernel_rfl
def reg45i : List Opr := [oT 17 3, oF 18 0 5, oN 19 18, oT 20 3, oF 21 0 5, oN 22 21, oM 23 (.idxs 1 (.t 20) (.t 22)), oN 24 23, oF 25 1 5, oN 26 25, oM 27 (.bslice 1 1 [.int .i64 0] [(0, 1, (.t 26))]), oM 28 (.append 1 8 [.int .i64 0] (.t 24) (.t 27)), oM 29 (.idxs 1 (.t 17) (.t 19)), ⟨none, .store 1 (.t 29) (.t 28), none⟩]
def reg45p : List (List Nat) := [[], [], [1], [], [], [4], [3, 5], [6], [], [8], [9], [7, 10], [0, 2, 0, 1, 2, 3, 4, 5, 6, 7, 8, 9, 10, 11], [12, 11, 11, 0, 1, 2, 3, 4, 5, 6, 7, 8, 9, 10, 11]]
structure Rw (m : Nat) (L : Nat → List Int) (nz : Nat → Bool) (cv : Nat → AV) (C : Nat → List Int) (ids sps : Nat → Nat) : Prop where
 some : ∀ v, v < m → nz v = true → L v ≠ [] ∧ C v = L v ∧ cv v = .ms (ids v) (sps v) 1 0 (L v).length none
 none : ∀ v, v < m → nz v = false → L v = [] ∧ cv v = .nils
theorem zjo {d : Nat} {v : AV} {l l' : List (Nat × AV)} (h : KeepA l l') (hd : ∀ x ∈ l', x.1 ≠ d) : KeepA ((d, v) :: l) l' := by
 induction h with
 | nil => exact .nil
 | @cons e u l2 h _ ih =>
  refine .cons ?_ (ih fun x hx => hd x (y06 _ hx))
  have := hd (e, u) (y08 ..)
  rw [zcs]
  cases hb : Nat.beq d e with
  | true => exact absurd (y0o hb).symm this
  | false => exact h
set_option maxHeartbeats 2000000 in
theorem reg45 {w0 : World} {N0 : Nat} {k : List Fr} {Q : Exit → AS → Prop} {y : IC} {m : Nat} {L : Nat → List Int} {nz : Nat → Bool} {cv : Nat → AV} {C : Nat → List Int} {ids sps : Nat → Nat} {hp : List (Nat × Nat × AObj)} {nx ck j s5 a b : Nat} {l : List (Nat × AV)}
  (hJ : Jn m nz cv C ids sps hp nx) (hR : Rw m L nz cv C ids sps) (k5 : Am.look j hp = some (s5, .cells [.int .i64 (a : Nat), .int .i64 (b : Nat)])) (hjn : j < nx) (hjd : ∀ v, v < m → nz v = true → ids v ≠ j) (ha : a < m) (hL : (L a).length ≤ 100000)
  (h3 : zcs 3 l = some (.ms 0 1 1 0 m (some m))) (h5 : zcs 5 l = some (.mptr j s5 0)) {l' : List (Nat × AV)} (hk : KeepA l l') (hd : ∀ x ∈ l', x.1 < 17)
  (fin : ∀ hp' nx' ck' nz' cv' C' ids' sps', Jn m nz' cv' C' ids' sps' hp' nx' → Rw m (upd L a (L a ++ [((b : Nat) : Int)])) nz' cv' C' ids' sps' → Zm Try.prog w0 N0 none y (st 51 l' hp' nx' ck') k Q) :
  Zm Try.prog w0 N0 none (.region reg45i (some reg45p)) (st 51 l hp nx ck) (.blk 1 :: .seq y :: k) Q := by
 have ez : ∀ o : Nat, 0 + ((o : Nat) : Int).toNat * 1 = o := fun o => by simp
 have hld0 : (fun i => Nat.beq i 0 || Nat.beq i j) 0 = true := rfl
 have hldj : (fun i => Nat.beq i 0 || Nat.beq i j) j = true := by show (Nat.beq j 0 || Nat.beq j j) = true; rw [y2a, Bool.or_true]
 refine z_cut env0_ok 12 [] (fun x hx => by cases hx) (fun _ => false) (fun i => Nat.beq i 0 || Nat.beq i j) (fun i => !(Nat.beq i 0 || Nat.beq i j)) (fun i h1 h2 => by rw [h1] at h2; cases h2) rfl rfl rfl rfl ?_
 show Om _ _ _ _ _ [_, _, _, _, _, _, _, _, _, _, _, _] _ _ _
 refine za1 h3 ?_
 refine zai h5 ?_
 refine zap (id := j) (sp := s5) (off := 0) rfl k5 hjn rfl ?_ (zoa rfl hldj)
 refine za1 h3 ?_
 refine zai h5 ?_
 refine zap (id := j) (sp := s5) (off := 0) rfl k5 hjn rfl ?_ (zoa rfl hldj)
 refine zax rfl rfl (y0y a) (y0x.2 ha) ?_
 rw [ez]
 refine zap (id := 0) (sp := 1) (off := a) rfl hJ.top hJ.nx0 (hJ.get ha) ?_ (zoa rfl hld0)
 refine zai h5 ?_
 refine zap (id := j) (sp := s5) (off := 0 + 1) rfl k5 hjn rfl ?_ (zoa rfl hldj)
 refine zbi rfl rfl ?_ rfl
 have J1 := hJ.fresh ck (.cells [.int .i64 (b : Nat)])
 have hel : ∀ l : List (Nat × AV), (st 51 l ((nx, ck, AObj.cells [.int .i64 (b : Nat)]) :: hp) (nx + 1) (ck + 1) []).elems 1 (.ms nx ck 1 0 1 (some 1)) = some [[.int .i64 (b : Nat)]] := fun l => zcv (xs := [[.int .i64 (b : Nat)]]) (ys := []) zah rfl fun x hx => by obtain rfl := y0f.1 hx; rfl
 cases hz : nz a with
 | false =>
  obtain ⟨e1, e2⟩ := hR.none a ha hz
  have J2 := (J1.add a (ck + 1) [((b : Nat) : Int)]).cset a (.ms (nx + 1) (ck + 1) 1 0 1 none)
  refine zq0 (v := .ms (nx + 1) (ck + 1) 1 0 1 none) (hp' := (nx + 1, ck + 1, .cells [.int .i64 (b : Nat)]) :: (nx, ck, .cells [.int .i64 (b : Nat)]) :: hp) (nx' := nx + 1 + 1) (ck' := ck + 1 + 1) (congrArg some e2) rfl (hel []) rfl ?_ (zrg (congrArg some e2))
  refine za8 (zao ⟨rfl, fun rd => ?_⟩)
  refine AnyF.one 12 rfl (zjc (i := 12) rfl rfl (znv rfl rfl (y0y a) (y0x.2 ha)) ?_)
  rw [ez]
  refine AnyF.one 13 rfl (zlv (i := 13) rfl (zgr (id := 0) (sp := 1) (off := a) rfl rfl rfl rfl (J1.add a (ck + 1) [((b : Nat) : Int)]).top (Nat.ble_eq_true_of_le (by simp; omega)) rfl) ?_)
  rw [zj5 (by simp; exact ha)]
  refine AnyF.fin rfl (Um.ok (zbd (za5 (z_sub (za9 (l' := l') ?_) (fin _ _ _ _ _ _ _ _ J2 ?_)))))
  ·repeat (refine zjo ?_ (fun x hx => by have := hd x hx; omega))
   exact hk
  ·constructor
   ·intro v hv hz'
    by_cases e : v = a
    ·subst e
     rw [zaf, zaf, zaf, zaf, zaf, e1]
     exact ⟨List.cons_ne_nil _ _, rfl, rfl⟩
    ·rw [zaa _ _ e] at hz'
     rw [zaa _ _ e, zaa _ _ e, zaa _ _ e, zaa _ _ e, zaa _ _ e]
     exact hR.some v hv hz'
   ·intro v hv hz'
    by_cases e : v = a
    ·subst e
     rw [zaf] at hz'
     cases hz'
    ·rw [zaa _ _ e] at hz'
     rw [zaa _ _ e, zaa _ _ e]
     exact hR.none v hv hz'
 | true =>
  obtain ⟨_, e1, e2⟩ := hR.some a ha hz
  have hp9 := hJ.pos a ha hz
  have hja := hjd a ha hz
  have J2 := (J1.block ha hz (ck + 1) (L a ++ [((b : Nat) : Int)])).cset a (.ms (ids a) (ck + 1) 1 0 ((L a).length + 1) none)
  have hsd : (fun i => !(Nat.beq i 0 || Nat.beq i j)) (ids a) = true := by
   have h1 : Nat.beq (ids a) 0 = false := by
    cases hb : Nat.beq (ids a) 0 with
    | false => rfl
    | true => have := y0o hb; omega
   have h2 : Nat.beq (ids a) j = false := by
    cases hb : Nat.beq (ids a) j with
    | false => rfl
    | true => exact absurd (y0o hb) hja
   show (!(Nat.beq (ids a) 0 || Nat.beq (ids a) j)) = true
   rw [h1, h2]
   rfl
  have hc := J1.cell a ha hz
  rw [e1] at hc
  have ap := zil (n := 51) (l := (27, .ms nx ck 1 0 1 (some 1)) :: (26, .int .i64 (b : Nat)) :: (25, .mptr j s5 (0 + 1)) :: (24, cv a) :: (23, .mptr 0 1 a) :: (22, .int .i64 (a : Nat)) :: (21, .mptr j s5 (0 + 0)) :: (20, .ms 0 1 1 0 m (some m)) :: (19, .int .i64 (a : Nat)) :: (18, .mptr j s5 (0 + 0)) :: (17, .ms 0 1 1 0 m (some m)) :: l) (hp := (nx, ck, .cells [.int .i64 (b : Nat)]) :: hp) (nx := nx + 1) (ck := ck + 1) (mk := []) (sz := 1) (bytes := 8) (z := [.int .i64 0]) (s := .t 24) (x := .t 27) [[.int .i64 (b : Nat)]] (id := ids a) (sp := sps a) (len := (L a).length) (congrArg some e2) rfl (hel _) (y24 0) rfl (by decide) hc (by rw [y04, Nat.mul_one]) (by show (L a).length + 1 ≤ 1048576; omega)
  have e0 : (L a).map (AV.int .i64) ++ [[AV.int .i64 (b : Nat)]].flatten = (L a ++ [((b : Nat) : Int)]).map (AV.int .i64) := by rw [y1u]; rfl
  rw [e0] at ap
  refine zdt ap ?_ (apOk (congrArg some e2) hsd)
  refine za8 (zao ⟨rfl, fun rd => ?_⟩)
  refine AnyF.one 12 rfl (zjc (i := 12) rfl rfl (znv rfl rfl (y0y a) (y0x.2 ha)) ?_)
  rw [ez]
  refine AnyF.one 13 rfl (zlv (i := 13) rfl (zgr (id := 0) (sp := 1) (off := a) rfl rfl rfl rfl (J1.block ha hz (ck + 1) (L a ++ [((b : Nat) : Int)])).top (Nat.ble_eq_true_of_le (by simp; omega)) rfl) ?_)
  rw [zj5 (by simp; exact ha)]
  refine AnyF.fin rfl (Um.ok (zbd (za5 (z_sub (za9 (l' := l') ?_) (fin _ _ _ _ _ _ _ _ J2 ?_)))))
  ·repeat (refine zjo ?_ (fun x hx => by have := hd x hx; omega))
   exact hk
  ·constructor
   ·intro v hv hz'
    by_cases e : v = a
    ·subst e
     rw [zaf, zaf, zaf, zaf, y0l]
     exact ⟨by simp, rfl, rfl⟩
    ·rw [zaa _ _ e, zaa _ _ e, zaa _ _ e, zaa _ _ e]
     exact hR.some v hv hz'
   ·intro v hv hz'
    by_cases e : v = a
    ·subst e
     rw [hz] at hz'
     cases hz'
    ·rw [zaa _ _ e, zaa _ _ e]
     exact hR.none v hv hz'
end Go.Proofs.Ytfbeableaihooaa
namespace Go.Proofs.Ytfbeableaihooaa
open Go Go.Am
def tabS : Tab := [(66, [([.vs []], .tup [])]), (67, [([.vs []], .vs [])])]
theorem zw9 : TabOk Try.prog tabS := TabOk.of_run (env0_ok.tab TabOk.nil (pure := [])) (n := 60) (by kernel_rfl)
theorem ints64 : PF Try.prog 66 [.vs []] (.tup []) := zw9 _ (y08 ..) _ (y08 ..)
theorem zt5 : PF Try.prog 67 [.vs []] (.vs []) := zw9 _ (y06 _ (y08 ..)) _ (y08 ..)
end Go.Proofs.Ytfbeableaihooaa
namespace Go.Proofs.Ytfbeableaihooaa
open Go Go.Am
def srtc (l : List Int) : List Int := cps (srt l) ++ List.replicate ((srt l).length - (cps (srt l)).length) 0
structure Rs (m : Nat) (L : Nat → List Int) (i : Nat) (nz : Nat → Bool) (cv : Nat → AV) (C : Nat → List Int) (ids sps : Nat → Nat) : Prop where
 some : ∀ v, v < m → nz v = true → L v ≠ [] ∧ C v = (if v < i then srtc (L v) else L v) ∧ cv v = .ms (ids v) (sps v) 1 0 (if v < i then (cps (srt (L v))).length else (L v).length) none
 none : ∀ v, v < m → nz v = false → L v = [] ∧ cv v = (if v < i then .vs [] else .nils)
theorem Rs.start {m : Nat} {L : Nat → List Int} {nz : Nat → Bool} {cv : Nat → AV} {C : Nat → List Int} {ids sps : Nat → Nat} (h : Rw m L nz cv C ids sps) : Rs m L 0 nz cv C ids sps :=
 ⟨fun v hv hz => by rw [if_neg (y28 v), if_neg (y28 v)]; exact h.some v hv hz, fun v hv hz => by rw [if_neg (y28 v)]; exact h.none v hv hz⟩
theorem zre {α : Type} {v i : Nat} (h : v ≠ i) (a b : α) : (if v < i + 1 then a else b) = if v < i then a else b := by
 by_cases e : v < i
 ·rw [if_pos e, if_pos (by omega)]
 ·rw [if_neg e, if_neg (by omega)]
def t45 (m : Nat) (i : Nat) : List (Nat × AV) := [(3, .ms 0 1 1 0 m (some m)), (32, .int .i64 (m : Nat)), (33, .int .i64 (i : Nat))]
set_option maxHeartbeats 2000000 in
theorem sort45 {w0 : World} {N0 : Nat} {m : Nat} {L : Nat → List Int} {i : Nat} {nz : Nat → Bool} {cv : Nat → AV} {C : Nat → List Int} {ids sps : Nat → Nat} {hp : List (Nat × Nat × AObj)} {nx ck : Nat} {Q : Exit → AS → Prop} (hm : m ≤ 256)
  (hJ : Jn m nz cv C ids sps hp nx) (hR : Rs m L i nz cv C ids sps) (hi : i < m) (hL : (L i).length ≤ 100000)
  (fin : ∀ l' hp' cv' C' sps', KeepA l' (t45 m (i + 1)) → Jn m nz cv' C' ids sps' hp' nx → Rs m L (i + 1) nz cv' C' ids sps' → Um Try.prog w0 N0 none .normal (st 51 l' hp' nx ck) [] Q) :
  Zm Try.prog w0 N0 none b42_2 (st 51 (t45 m i) hp nx ck) [] Q := by
 have ez : ∀ o : Nat, 0 + ((o : Nat) : Int).toNat * 1 = o := fun o => by simp
 have w1 : IntKind.wrap .i64 (((i : Nat) : Int) + 1) = ((i + 1 : Nat) : Int) := zab i (by omega)
 have hidx : ((i : Nat) : Int) < ((m : Nat) : Int) := y0x.2 hi
 unfold b42_2 t45
 repeat (first | refine za7 ?_ | refine za0 rfl ?_)
 refine zjx rfl rfl (by show some (AV.bool (decide (((i : Nat) : Int) < ((m : Nat) : Int)))) = _; rw [decide_eq_true hidx]) ?_
 repeat (first | refine za7 ?_ | refine za0 rfl ?_ | refine za8 ?_ | refine za5 ?_ | refine zac ?_ | refine zae ?_ | refine zbz rfl ?_ | refine za1 rfl ?_ | refine zax rfl rfl (by omega) (by omega) ?_)
 rw [ez]
 refine zap (id := 0) (sp := 1) (off := i) rfl hJ.top hJ.nx0 (hJ.get hi) ?_
 cases hz : nz i with
 | true =>
  obtain ⟨e0, e1, e2⟩ := hR.some i hi hz
  rw [if_neg (Nat.lt_irrefl i)] at e1 e2
  have hc := hJ.cell i hi hz
  rw [e1] at hc
  have hne2 : srt (L i) ≠ [] := fun e => e0 (by have := zlj (L i); rw [e] at this; exact y20.1 this.symm)
  have J1 := hJ.block hi hz (sps i) (srt (L i))
  have hc2 := J1.cell i hi hz
  rw [zaf, zaf] at hc2
  have J2 := J1.block hi hz (sps i) (srtc (L i))
  have J3 := J2.cset i (.ms (ids i) (sps i) 1 0 (cps (srt (L i))).length none)
  refine zry _ rfl (congrArg (fun v => some [v]) e2) (zfz (FT_sort (cap := none) (zs := L i) ent64 sorts64 e0 (by omega) hc)) (fun v H hF => fun _ h => absurd h y0h) fun v H hF => ?_
  obtain ⟨rfl, rfl⟩ := hF
  repeat (first | refine za0 rfl ?_ | refine za8 ?_ | refine za5 ?_ | refine za1 rfl ?_ | refine zax rfl rfl (by omega) (by omega) ?_)
  rw [ez]
  refine zap (id := 0) (sp := 1) (off := i) rfl J1.top J1.nx0 (J1.get hi) ?_
  refine zry _ rfl (congrArg (fun v => some [v]) (e2.trans (by rw [← zlj (L i)]))) (zfz (zqv (cap := none) (zs := srt (L i)) ent65 cpts65 hne2 (by rw [zlj]; omega) hc2)) (fun v H hF => fun _ h => absurd h y0h) fun v H hF => ?_
  obtain ⟨rfl, rfl⟩ := hF
  repeat (first | refine zax rfl rfl (by omega) (by omega) ?_)
  rw [ez]
  refine zbj (id := 0) (sp := 1) (off := i) rfl rfl rfl J2.top (by simp; exact hi) rfl ?_
  repeat (first | refine za0 rfl ?_ | refine za8 ?_ | refine za5 ?_ | refine zbd ?_ | refine za1 rfl ?_ | refine zav (op := .add) rfl rfl rfl ?_)
  rw [w1]
  refine fin _ _ _ _ _ ?_ J3 ?_
  ·exact .cons rfl (.cons rfl (.cons rfl .nil))
  ·constructor
   ·intro v hv hzv
    by_cases e : v = i
    ·subst e
     rw [zaf, zaf, zaf, if_pos (y0q v), if_pos (y0q v)]
     exact ⟨e0, rfl, rfl⟩
    ·rw [zaa _ _ e, zaa _ _ e, zaa _ _ e, zaa _ _ e, zaa _ _ e]
     rw [zre e, zre e]
     exact hR.some v hv hzv
   ·intro v hv hzv
    have e : v ≠ i := fun e => by rw [e, hz] at hzv; cases hzv
    rw [zaa _ _ e, zre e]
    exact hR.none v hv hzv
 | false =>
  obtain ⟨e0, e2⟩ := hR.none i hi hz
  rw [if_neg (Nat.lt_irrefl i)] at e2
  have J3 := hJ.cset i (.vs [])
  refine zat (vs := [.nils]) (congrArg (fun v => some [v]) e2) rfl ints64 noC ?_
  repeat (first | refine za0 rfl ?_ | refine za8 ?_ | refine za5 ?_ | refine za1 rfl ?_ | refine zax rfl rfl (by omega) (by omega) ?_)
  rw [ez]
  refine zap (id := 0) (sp := 1) (off := i) rfl hJ.top hJ.nx0 (hJ.get hi) ?_
  refine zat (vs := [.nils]) (congrArg (fun v => some [v]) e2) rfl zt5 noC ?_
  repeat (first | refine zax rfl rfl (by omega) (by omega) ?_)
  rw [ez]
  refine zbj (id := 0) (sp := 1) (off := i) rfl rfl rfl hJ.top (by simp; exact hi) rfl ?_
  repeat (first | refine za0 rfl ?_ | refine za8 ?_ | refine za5 ?_ | refine zbd ?_ | refine za1 rfl ?_ | refine zav (op := .add) rfl rfl rfl ?_)
  rw [w1]
  refine fin _ _ _ _ _ ?_ J3 ?_
  ·exact .cons rfl (.cons rfl (.cons rfl .nil))
  ·constructor
   ·intro v hv hzv
    have e : v ≠ i := fun e => by rw [e, hz] at hzv; cases hzv
    rw [zaa _ _ e, zre e, zre e]
    exact hR.some v hv hzv
   ·intro v hv hzv
    by_cases e : v = i
    ·subst e
     rw [zaf, if_pos (y0q v)]
     exact ⟨e0, rfl⟩
    ·rw [zaa _ _ e, zre e]
     exact hR.none v hv hzv
theorem zml {f : Nat → AV} (h : ∀ v, hasM (f v) = false) : ∀ l : List Nat, hasM.hasML (l.map f) = false
 | [] => rfl
 | v :: l => by
  rw [y16]
  show (hasM (f v) || hasM.hasML (l.map f)) = false
  rw [h v, zml h l]
  rfl
theorem zvi (E : List (Nat × Nat)) (v : Nat) : (raw E v).length ≤ E.length := by
 unfold raw
 rw [y04]
 exact y1m ..
set_option maxHeartbeats 2000000 in
theorem zl2 (m : Nat) (hm : m ≤ 256) (E : List (Nat × Nat)) (hE : E.length ≤ 5000) (hb : ∀ u v, (u, v) ∈ E → u < m ∧ v < m) : PF Try.prog 42 [cG (m : Nat) (zbm E)] (cN E m) := by
 have hcl : (cE (zbm E)).length = E.length := by rw [zd9]; exact y04 ..
 refine zaw env0_ok fn42 [(0, .agg [.int .i64 (m : Nat), .vs (cE (zbm E))])] (by show 1 ≤ 51; decide) rfl fun w0 N0 => ?_
 unfold ic42
 refine zsr rfl (zd6 rfl rfl (za1 rfl (onu ?_)))
 refine zcc [] [(0, 0, [.int .i64 (m : Nat), .vs (cE (zbm E))])] [(1, .vptr [.int .i64 (m : Nat), .vs (cE (zbm E))])] rfl (.cons rfl rfl .nil) .nil (.cons rfl (.fptr rfl rfl) .nil) ?_
 repeat (first | refine za7 ?_ | refine za0 rfl ?_ | refine zag rfl rfl ?_ | refine zaz rfl rfl rfl ?_)
 refine o_mks rfl rfl ⟨y0y m, y1e _, by omega, by decide⟩ ?_
 repeat (first | refine za7 ?_ | refine za0 rfl ?_ | refine za8 ?_ | refine za5 ?_ | refine zac ?_ | refine za1 rfl ?_ | refine zag rfl rfl ?_ | refine zaz rfl rfl rfl ?_ | refine zbl rfl rfl ?_)
 have J0 : Jn m (fun _ => false) (fun _ => .nils) (fun _ => []) (fun _ => 0) (fun _ => 0) [(0, 1, AObj.cells (zed ((m : Nat) : Int).toNat [.nils]))] 1 := by
  refine ⟨?_, fun _ _ h => (by cases h), fun _ _ h => (by cases h), fun _ _ _ _ h => (by cases h), Nat.zero_lt_one⟩
  rw [← zk2]
  rfl
 refine zb8 (fun mm S => ∃ i hp nx ck nz cv C ids sps, mm = E.length - i ∧ i ≤ E.length ∧ Jn m nz cv C ids sps hp nx ∧ Rw m (raw (E.take i)) nz cv C ids sps ∧ S = st 51 [(1, .vptr [.int .i64 (m : Nat), .vs (cE (zbm E))]), (3, .ms 0 1 1 0 m (some m)), (11, .vs (cE (zbm E))), (12, .int .i64 ((cE (zbm E)).length : Nat)), (13, .int .i64 (i : Nat))] hp nx ck) E.length
  (za9 (.cons rfl (.cons rfl (.cons rfl (.cons rfl (.cons rfl .nil)))))) ⟨0, _, _, _, _, _, _, _, _, rfl, y0s _, J0, ⟨fun _ _ h => (by cases h), fun _ _ _ => ⟨rfl, rfl⟩⟩, rfl⟩ ?_
 rintro mm S ⟨i, hp, nx, ck, nz, cv, C, ids, sps, rfl, hi, hJ, hR, rfl⟩
 unfold b42_0
 repeat (first | refine za7 ?_ | refine za0 rfl ?_)
 refine zam rfl rfl rfl (fun h3 => ?_) fun h3 => ?_
 ·have hlt : i < E.length := by
   have h4 : ((i : Nat) : Int) < (((cE (zbm E)).length : Nat) : Int) := of_decide_eq_true h3
   omega
  have w1 : IntKind.wrap .i64 (((i : Nat) : Int) + 1) = ((i + 1 : Nat) : Int) := zab i (by omega)
  have hg := zm5 hlt
  obtain ⟨ha, _⟩ := hb _ _ (y0z hlt : (E[i].1, E[i].2) ∈ E)
  have hrs := fun v => raw_step hlt v
  repeat (first | refine za7 ?_ | refine za0 rfl ?_ | refine za8 ?_ | refine za5 ?_ | refine zac ?_ | refine zae ?_ | refine zbz rfl ?_ | refine zb3 rfl rfl rfl rfl ?_ | refine zcp ?_ | refine zb1 rfl rfl (by omega) (by assumption) rfl ?_)
  refine zci (id := nx) (sp := ck) (off := 0) rfl rfl rfl rfl zah rfl rfl ?_
  refine onu ?_
  have hpn := hJ.nx0
  refine reg45 (j := nx) (s5 := ck) (a := E[i].1) (b := E[i].2) (l' := [(1, .vptr [.int .i64 (m : Nat), .vs (cE (zbm E))]), (3, .ms 0 1 1 0 m (some m)), (11, .vs (cE (zbm E))), (12, .int .i64 ((cE (zbm E)).length : Nat)), (13, .int .i64 (i : Nat))])
   ((hJ.fresh ck _).junk (j := nx) (by omega) (fun v hv hz => by have := hJ.pos v hv hz; omega) _) hR (by rw [za4, if_pos rfl]; rfl) (y0q _) (fun v hv hz => by have := hJ.pos v hv hz; omega) ha (by have := zvi (E.take i) E[i].1; rw [y2g] at this; omega) rfl rfl (.cons rfl (.cons rfl (.cons rfl (.cons rfl (.cons rfl .nil))))) (fun x hx => by
    simp only [y0n, y0h, or_false] at hx
    rcases hx with rfl | rfl | rfl | rfl | rfl <;> simp) fun hp' nx' ck' nz' cv' C' ids' sps' hJ' hR' => ?_
  repeat (first | refine za0 rfl ?_ | refine za8 ?_ | refine za1 rfl ?_ | refine zav (op := .add) rfl rfl rfl ?_)
  rw [w1]
  refine zal (show E.length - (i + 1) < E.length - i by omega) (za9 (.cons rfl (.cons rfl (.cons rfl (.cons rfl (.cons rfl .nil)))))) ⟨i + 1, _, _, _, _, _, _, _, _, rfl, hlt, hJ', ?_, rfl⟩
  have : raw (E.take (i + 1)) = upd (raw (E.take i)) E[i].1 (raw (E.take i) E[i].1 ++ [((E[i].2 : Nat) : Int)]) := by
   funext v
   rw [hrs v]
   unfold upd
   by_cases e : v = E[i].1
   ·rw [if_pos e.symm, if_pos e, e]
   ·rw [if_neg fun h => e h.symm, if_neg e]
  rw [this]
  exact hR'
 ·have hie : i = E.length := by
   have h4 : ¬ ((i : Nat) : Int) < (((cE (zbm E)).length : Nat) : Int) := of_decide_eq_false h3
   omega
  subst hie
  rw [y1f] at hR
  repeat (first | refine za7 ?_ | refine za8 ?_ | refine za5 ?_ | refine zbn rfl ?_ | refine zbb ?_ | refine zad ?_)
  refine zby ?_
  repeat (first | refine za7 ?_ | refine za0 rfl ?_ | refine za8 ?_ | refine za5 ?_ | refine zac ?_ | refine zb7 ?_ | refine za1 rfl ?_ | refine zbl rfl rfl ?_)
  refine zb8 (fun mm S => ∃ i hp ck cv C sps, mm = m - i ∧ i ≤ m ∧ Jn m nz cv C ids sps hp nx ∧ Rs m (raw E) i nz cv C ids sps ∧ S = st 51 (t45 m i) hp nx ck) m
   (za9 (.cons rfl (.cons rfl (.cons rfl .nil)))) ⟨0, _, _, _, _, _, rfl, y0s _, hJ, Rs.start hR, rfl⟩ ?_
  rintro mm S ⟨i, hp, ck, cv, C, sps, rfl, hi, hJ, hR, rfl⟩
  by_cases hlt : i < m
  ·exact sort45 hm hJ hR hlt (by have := zvi E i; omega) fun l' hp' cv' C' sps' hk hJ' hR' => zal (show m - (i + 1) < m - i by omega) (za9 hk) ⟨i + 1, _, _, _, _, _, rfl, hlt, hJ', hR', rfl⟩
  ·have hie : i = m := by omega
   subst hie
   unfold b42_2 t45
   repeat (first | refine za7 ?_ | refine za0 rfl ?_)
   refine zdc rfl rfl (by show some (AV.bool (decide (((i : Nat) : Int) < ((i : Nat) : Int)))) = _; rw [decide_eq_false (Int.lt_irrefl _)]) ?_
   repeat (first | refine za7 ?_ | refine za8 ?_ | refine za5 ?_ | refine zbn rfl ?_ | refine zbb ?_ | refine zad ?_)
   refine zby ?_
   refine zb7 (za5 ?_)
   refine zcc [(some (0, 1), (List.range i).map fun v => vN (nbr E i v))] (fzJ i nz C ids sps) [(3, .ms 0 0 1 0 i (some i))] (hJ.ok _) hJ.rnF (.cons hJ.top (zq8 fun v hv => ?_) .nil) (.cons rfl (.ms rfl) .nil) ?_
   ·have hv := y0j.1 hv
    cases hz : nz v with
    | true =>
     obtain ⟨e0, e1, e2⟩ := hR.some v hv hz
     rw [if_pos hv] at e1 e2
     rw [e2]
     have hc := zt7 (es := E) (N := i) (v := v) fun u w h => (hb u w h).2
     have hfz := hJ.fzl hv hz
     rw [e1] at hfz
     refine .fms hfz (by rw [y04, hc, y04]) (fun x hx => by obtain ⟨s, _, rfl⟩ := y0i.1 hx; rfl) ⟨(List.replicate ((srt (raw E v)).length - (cps (srt (raw E v))).length) 0).map (AV.int .i64), ?_⟩
     unfold srtc
     rw [y2w, y1u, hc, zg9, y1v]
     rfl
    | false =>
     obtain ⟨e0, e2⟩ := hR.none v hv hz
     rw [if_pos hv] at e2
     rw [e2]
     have hc := zt7 (es := E) (N := i) (v := v) fun u w h => (hb u w h).2
     rw [e0] at hc
     have h0 : cps (srt []) = [] := by rw [cps_eq, show srt [] = [] from by unfold srt; simp]; rfl
     have : nbr E i v = [] := List.map_eq_nil_iff.1 (hc.symm.trans h0)
     unfold vN
     rw [this]
     exact .same rfl
   refine zcc [] [(0, 0, (List.range i).map fun v => vN (nbr E i v))] [(3, cN E i)] rfl (.cons rfl ?_ .nil) .nil (.cons rfl ?_ .nil) ?_
   ·exact zml (fun v => rfl) _
   ·have := RenW.fms1 (live := []) (fz := [(0, 0, (List.range i).map fun v => vN (nbr E i v))]) (id := 0) (sp := 0) (len := i) (cap := some i) (vs := (List.range i).map fun v => vN (nbr E i v)) rfl (by rw [y04, y0m])
    rw [y1v] at this
    exact this
   repeat (first | refine za7 ?_ | refine za0 rfl ?_ | refine za8 ?_ | refine za5 ?_ | refine zau ?_ | refine za1 rfl ?_)
   exact zao ⟨.inr rfl, _, rfl, rfl⟩
end Go.Proofs.Ytfbeableaihooaa
namespace Go.Proofs.Ytfbeableaihooaa
open Go Go.Am
theorem znf {n v : Int} (h : zg2 n v = false) : 0 ≤ v ∧ v < n := by
 unfold zg2 at h
 rw [y1d, decide_eq_false_iff_not, decide_eq_false_iff_not] at h
 omega
theorem zwg {n : Int} {l : List Int} (h : zjb n l = 0) : ∀ v ∈ l, 0 ≤ v ∧ v < n := by
 unfold zjb at h
 split at h
 ·cases h
 ·rename_i ha
  intro v hv
  refine znf ?_
  cases hb : zg2 n v with
  | false => rfl
  | true => exact absurd (y2q.2 ⟨v, hv, hb⟩) ha
theorem edgE_ok {n : Int} {es : List (Int × Int)} (h : znp n es = 0) : ∀ e ∈ es, (0 ≤ e.1 ∧ e.1 < n) ∧ 0 ≤ e.2 ∧ e.2 < n := by
 unfold znp at h
 split at h
 ·cases h
 ·rename_i ha
  intro e he
  have : (zg2 n e.1 || zg2 n e.2) = false := by
   cases hb : (zg2 n e.1 || zg2 n e.2) with
   | false => rfl
   | true => exact absurd (y2q.2 ⟨e, he, hb⟩) ha
  rw [y1d] at this
  exact ⟨znf this.1, znf this.2⟩
theorem zjj {n : Int} {es : List (Int × Int)} (h : zf9 n es = 0) : ∃ (m : Nat) (E : List (Nat × Nat)), n = (m : Int) ∧ es = zbm E ∧ m ≤ 256 ∧ E.length = es.length ∧ E.length ≤ 4096 ∧ ∀ u v, (u, v) ∈ E → u < m ∧ v < m := by
 unfold zf9 at h
 split at h
 ·cases h
 split at h
 ·cases h
 split at h
 ·cases h
 rename_i h0 h1 h2
 have hb := edgE_ok h
 refine ⟨n.toNat, es.map fun e => (e.1.toNat, e.2.toNat), by omega, ?_, by omega, y04 .., by rw [y04]; omega, fun u v hm => ?_⟩
 ·unfold zbm
  rw [y1v]
  refine (List.map_id _).symm.trans (y1x fun e he => ?_)
  obtain ⟨⟨a, b⟩, c, d⟩ := hb e he
  show e = (((e.1.toNat : Nat) : Int), ((e.2.toNat : Nat) : Int))
  rw [Int.toNat_of_nonneg a, Int.toNat_of_nonneg c]
 ·obtain ⟨e, he, h3⟩ := y0i.1 hm
  obtain ⟨⟨a, b⟩, c, d⟩ := hb e he
  injection h3 with h3 h4
  subst h3 h4
  omega
def givV (n : Int) (es : List (Int × Int)) (l : List Int) : AV := if zkp n es l = 0 then .tup [cN (es.map fun e => (e.1.toNat, e.2.toNat)) n.toNat, .int .i64 0] else .tup [.vs [], .int .i64 (zkp n es l)]
theorem zg5 (E : List (Nat × Nat)) : ((zbm E).map fun e => (e.1.toNat, e.2.toNat)) = E := by
 unfold zbm
 rw [y1v]
 exact (y1x fun e _ => rfl).trans (List.map_id _)
theorem zkq {m : Nat} {E : List (Nat × Nat)} {l : List Int} (h : zkp m (zbm E) l = 0) : givV m (zbm E) l = .tup [cN E m, .int .i64 0] := by
 unfold givV
 rw [if_pos h, zg5]
 rfl
theorem zga {n : Int} {es : List (Int × Int)} {l : List Int} (h : zkp n es l ≠ 0) : givV n es l = .tup [.vs [], .int .i64 (zkp n es l)] := if_neg h
-- pneumatic/digraph.given
def ic33 : IC := .seq (.region [oM 2 (.box (.t 0)),
  oM 4 (.mov (.c (.nils))),
  oM 5 (.mov (.c (.int .i64 0)))] none)
 (.seq (.seq (.region [oL 8 2 2,
  oM 9 (.call (.c (.fn 40 [] [])) [(.t 8)]),
  oT 6 9] none)
 (.seq (.region [oT 10 6,
  oM 11 (.bin .neq (.t 10) (.c (.int .i64 0)))] none)
 (.cond (.t 11) (.seq (.region [oT 12 6,
  oM 4 (.mov (.c (.nils))),
  oT 5 12] none)
 (.ret))
 (.skip))))
 (.seq (.seq (.region [oL 13 2 2,
  oT 14 1,
  oM 15 (.call (.c (.fn 57 [] [])) [(.t 13), (.t 14)]),
  oT 7 15] none)
 (.seq (.region [oT 16 7,
  oM 17 (.bin .neq (.t 16) (.c (.int .i64 0)))] none)
 (.cond (.t 17) (.seq (.region [oT 18 7,
  oM 4 (.mov (.c (.nils))),
  oT 5 18] none)
 (.ret))
 (.skip))))
 (.seq (.region [oL 19 2 2,
  oM 20 (.call (.c (.fn 42 [] [])) [(.t 19)]),
  oT 4 20,
  oM 5 (.mov (.c (.int .i64 0)))] none)
 (.ret))))
theorem fn33 : env0.fn 33 = some ⟨21, ic33, [.t 4, .t 5]⟩ := by kernel_rfl
set_option maxHeartbeats 1000000 in
theorem znw (n : Int) (es : List (Int × Int)) (l : List Int) (hl : l.length ≤ 1000000) : PF Try.prog 33 [cG n es, vsI l] (givV n es l) := by
 have p34 := check34 n es
 have p56 := zqr n es l hl
 refine zaw env0_ok fn33 [(0, .agg [.int .i64 n, .vs (cE es)]), (1, vsI l)] (by show 2 ≤ 21; decide) rfl fun w0 N0 => ?_
 unfold ic33
 refine zsr rfl (zd6 rfl rfl (za1 rfl (za1 rfl (onu ?_))))
 refine zcc [] [(0, 0, [.int .i64 n, .vs (cE es)])] [(1, vsI l), (2, .vptr [.int .i64 n, .vs (cE es)])] rfl (.cons rfl rfl .nil) .nil (.cons rfl (.same rfl) (.cons rfl (.fptr rfl rfl) .nil)) ?_
 repeat (first | refine za7 ?_ | refine za0 rfl ?_ | refine zb3 rfl rfl rfl rfl ?_)
 refine zat rfl rfl p34 noC ?_
 repeat (first | refine za7 ?_ | refine za0 rfl ?_ | refine za8 ?_ | refine za5 ?_ | refine za1 rfl ?_)
 refine zam rfl rfl rfl (fun h => ?_) fun h => ?_
 ·have h : ¬ zf9 n es = 0 := by simpa using h
  have hg : zkp n es l = zf9 n es := if_neg h
  rw [zga (by rw [hg]; exact h), hg]
  repeat (first | refine za7 ?_ | refine za0 rfl ?_ | refine za8 ?_ | refine za5 ?_ | refine zbz rfl ?_ | refine zau ?_ | refine zak ?_ | refine za1 rfl ?_)
  exact zao ⟨.inr rfl, _, rfl, rfl⟩
 have h : zf9 n es = 0 := by simpa using h
 have hg : zkp n es l = zjb n l := if_pos h
 repeat (first | refine za7 ?_ | refine za0 rfl ?_ | refine za8 ?_ | refine za5 ?_ | refine zae ?_ | refine zbn rfl ?_ | refine za1 rfl ?_ | refine zb3 rfl rfl rfl rfl ?_)
 refine zat rfl rfl p56 noC ?_
 repeat (first | refine za7 ?_ | refine za0 rfl ?_ | refine za8 ?_ | refine za5 ?_ | refine za1 rfl ?_)
 refine zam rfl rfl rfl (fun h1 => ?_) fun h1 => ?_
 ·have h1 : ¬ zjb n l = 0 := by simpa using h1
  rw [zga (by rw [hg]; exact h1), hg]
  repeat (first | refine za7 ?_ | refine za0 rfl ?_ | refine za8 ?_ | refine za5 ?_ | refine zbz rfl ?_ | refine zau ?_ | refine zak ?_ | refine za1 rfl ?_)
  exact zao ⟨.inr rfl, _, rfl, rfl⟩
 have h1 : zjb n l = 0 := by simpa using h1
 obtain ⟨m, E, rfl, rfl, hm, _, hE, hb⟩ := zjj h
 rw [zkq (hg.trans h1)]
 have p45 := zl2 m hm E (by omega) hb
 repeat (first | refine za7 ?_ | refine za0 rfl ?_ | refine za8 ?_ | refine za5 ?_ | refine zae ?_ | refine zbn rfl ?_ | refine zb3 rfl rfl rfl rfl ?_)
 refine zat rfl rfl p45 noC ?_
 repeat (first | refine za8 ?_ | refine za5 ?_ | refine zau ?_ | refine za1 rfl ?_)
 exact zao ⟨.inr rfl, _, rfl, rfl⟩
theorem giv_ok {n : Int} {es : List (Int × Int)} {l : List Int} (h : zkp n es l = 0) : zf9 n es = 0 ∧ zjb n l = 0 := by
 unfold zkp at h
 split at h
 ·rename_i hc; exact ⟨hc, h⟩
 ·rename_i hc; exact absurd h hc
end Go.Proofs.Ytfbeableaihooaa
namespace Go.Proofs.Ytfbeableaihooaa
open Go Go.Am
-- (pneumatic/digraph.net).led$1
def ic69 : IC := .seq (.region [oM 4 (.mov (.c (.bool false)))] none)
 (.seq (.region [oN 5 1,
  oT 6 0,
  oM 7 (.idxs 1 (.t 5) (.t 6)),
  oN 8 7,
  oM 9 (.bin .geq (.t 8) (.c (.int .i64 0))),
  oT 10 9,
  ⟨(some 11), .load none (.t 1), some (10, true)⟩,
  ⟨(some 12), .mov (.t 0), some (10, true)⟩,
  ⟨(some 13), .idxs 1 (.t 11) (.t 12), some (10, true)⟩,
  ⟨(some 14), .load none (.t 13), some (10, true)⟩,
  ⟨(some 15), .load none (.t 1), some (10, true)⟩,
  ⟨(some 16), .load none (.t 2), some (10, true)⟩,
  ⟨(some 17), .idxs 1 (.t 15) (.t 16), some (10, true)⟩,
  ⟨(some 18), .load none (.t 17), some (10, true)⟩,
  ⟨(some 19), .bin .sub (.t 18) (.c (.int .i64 1)), some (10, true)⟩,
  ⟨(some 20), .bin .eql (.t 14) (.t 19), some (10, true)⟩,
  oM 21 (.pick (.t 10) (.t 20) (.c (.bool false))),
  oT 4 21] (some [[], [], [0, 1], [2], [3], [4], [5], [5], [6, 7, 5], [8, 5], [5], [5], [10, 11, 5], [12, 5], [13, 5], [9, 14, 5], [5, 15], [16, 5, 0, 1, 2, 3, 4, 5, 6, 7, 8, 9, 10, 11, 12, 13, 14, 15, 16]]))
 (.ret))
theorem fn69 : env0.fn 69 = some ⟨22, ic69, [.t 4]⟩ := by kernel_rfl
set_option maxRecDepth 100000 in
set_option maxHeartbeats 1000000 in
theorem pred67 (back : List Int) (w v : Nat) (hw : w < back.length) (hv : v < back.length) (lo : -1 ≤ gI back v) (hi : gI back v ≤ 1000000) : PF Try.prog 69 [.int .i64 (w : Nat), .vptr [vsI back], .vptr [.int .i64 (v : Nat)]] (.bool (prB back v w)) := by
 have hgw : (back.map fun z => ([.int .i64 z] : List AV))[((w : Nat) : Int).toNat]? = some [.int .i64 (gI back w)] := by rw [ze5 hw]; unfold gI; rw [y0b, y07 hw]; rfl
 have hgv : (back.map fun z => ([.int .i64 z] : List AV))[((v : Nat) : Int).toNat]? = some [.int .i64 (gI back v)] := by rw [ze5 hv]; unfold gI; rw [y0b, y07 hv]; rfl
 refine zaw env0_ok fn69 [(0, .int .i64 (w : Nat)), (1, .vptr [vsI back]), (2, .vptr [.int .i64 (v : Nat)])] (by show 3 ≤ 22; decide) rfl fun w0 N0 => ?_
 unfold ic69 prB
 have w1 : IntKind.wrap .i64 (gI back v - 1) = gI back v - 1 := zd8 _ (by omega) (by omega)
 repeat (first | refine za7 ?_ | refine za0 rfl ?_ | refine za8 ?_ | refine za5 ?_ | refine za1 rfl ?_ | refine zag rfl rfl ?_ | refine zdl env0_ok rfl rfl rfl ?_ | refine zb1 rfl rfl (by omega) (by assumption) rfl ?_)
 refine zam rfl rfl rfl (fun h1 => ?_) fun h1 => ?_
 ·have h1 : decide (gI back w ≥ 0) = true := h1
  rw [h1]
  repeat (first | refine ze4 rfl ?_ | refine za1 rfl ?_ | refine zag rfl rfl ?_ | refine zav (op := .sub) rfl rfl rfl ?_ | refine zb1 rfl rfl (by omega) (by assumption) rfl ?_)
  rw [w1]
  refine zam rfl rfl rfl (fun h2 => ?_) fun h2 => ?_
  ·have h2 : (gI back w == gI back v - 1) = true := h2
   rw [h2]
   repeat (first | refine za8 ?_ | refine za5 ?_ | refine zau ?_ | refine za1 rfl ?_ | refine zb9 rfl rfl ?_)
   exact zao ⟨.inr rfl, _, rfl, rfl⟩
  ·have h2 : (gI back w == gI back v - 1) = false := h2
   rw [h2]
   repeat (first | refine za8 ?_ | refine za5 ?_ | refine zau ?_ | refine za1 rfl ?_ | refine zb9 rfl rfl ?_)
   exact zao ⟨.inr rfl, _, rfl, rfl⟩
 ·have h1 : decide (gI back w ≥ 0) = false := h1
  rw [h1]
  repeat (first | refine za8 ?_ | refine za5 ?_ | refine zau ?_ | refine zgo rfl rfl ?_ | refine za1 rfl ?_ | refine zb4 rfl rfl ?_)
  exact zao ⟨.inr rfl, _, rfl, rfl⟩
def b44_0 : IC := .seq (.region [oM 9 (.bin .lss (.t 8) (.t 7))] none)
 (.seq (.cond (.t 9) (.skip)
 (.exit 0))
 (.seq (.block 1 (.seq (.region [oT 10 8,
  oT 5 10] none)
 (.seq (.region [oT 11 1,
  oT 12 0,
  oT 13 5,
  oM 14 (.idxs 1 (.t 12) (.t 13)),
  oN 15 14,
  oM 16 (.call (.t 11) [(.t 15)])] none)
 (.cond (.t 16) (.seq (.region [oT 17 5,
  oT 4 17] none)
 (.ret))
 (.skip)))))
 (.region [oM 18 (.bin .add (.t 8) (.c (.int .i64 1))),
  oT 8 18] none)))
-- slices.IndexFunc[[]int,int]
def ic44 : IC := .seq (.region [oM 4 (.mov (.c (.int .i64 0)))] none)
 (.seq (.seq (.region [oT 6 0,
  oM 7 (.len false (.t 6)),
  oM 8 (.mov (.c (.int .i64 0)))] none)
 (.block 0 (.loop b44_0)))
 (.seq (.region [oM 4 (.mov (.c (.int .i64 (-1))))] none)
 (.ret)))
theorem fn44 : env0.fn 44 = some ⟨19, ic44, [.t 4]⟩ := by kernel_rfl
theorem zk8 {l : List Nat} {i : Nat} (h : i < l.length) : (l.map fun w => ([.int .i64 (w : Nat)] : List AV))[((i : Nat) : Int).toNat]? = some [.int .i64 (l[i] : Nat)] := by
 rw [y0t, y0d, y07 h]
 rfl
set_option maxHeartbeats 1000000 in
theorem index66 (back : List Int) (l : List Nat) (v : Nat) (hl : l.length ≤ 1000000) (hin : ∀ w ∈ l, w < back.length) (hv : v < back.length) (lo : -1 ≤ gI back v) (hi : gI back v ≤ 1000000) (k : Nat) (hk : k < l.length) (hp : prB back v l[k] = true) (hn : ∀ i (h2 : i < k), prB back v (l[i]'(Nat.lt_trans h2 hk)) = false) :
  PF Try.prog 44 [vN l, .fn 69 [] [.vptr [vsI back], .vptr [.int .i64 (v : Nat)]]] (.int .i64 (k : Nat)) := by
 have hvl : (l.map fun w => ([.int .i64 (w : Nat)] : List AV)).length = l.length := y04 ..
 refine zaw env0_ok fn44 [(0, vN l), (1, .fn 69 [] [.vptr [vsI back], .vptr [.int .i64 (v : Nat)]])] (by show 2 ≤ 19; decide) rfl fun w0 N0 => ?_
 unfold ic44
 repeat (first | refine za7 ?_ | refine za0 rfl ?_ | refine za8 ?_ | refine za5 ?_ | refine zac ?_ | refine za1 rfl ?_ | refine zbl rfl rfl ?_)
 refine zb8 (fun mm S => ∃ i, mm = l.length - i ∧ i ≤ k ∧ S = st 19 [(0, vN l), (1, .fn 69 [] [.vptr [vsI back], .vptr [.int .i64 (v : Nat)]]), (7, .int .i64 (l.length : Nat)), (8, .int .i64 (i : Nat))] [] 0 0) l.length
  (za9 (.cons rfl (.cons rfl (.cons (by rw [← hvl]; rfl) (.cons rfl .nil))))) ⟨0, rfl, y0s _, rfl⟩ ?_
 rintro mm S ⟨i, rfl, hi2, rfl⟩
 have hlt : i < l.length := by omega
 have hg := zk8 hlt
 have p67 := pred67 back l[i] v (hin _ (y0z hlt)) hv lo hi
 have w1 : IntKind.wrap .i64 (((i : Nat) : Int) + 1) = ((i + 1 : Nat) : Int) := zab i (by omega)
 unfold b44_0
 repeat (first | refine za7 ?_ | refine za0 rfl ?_)
 refine zam rfl rfl rfl (fun h3 => ?_) fun h3 => ?_
 ·repeat (first | refine za7 ?_ | refine za0 rfl ?_ | refine za8 ?_ | refine za5 ?_ | refine zac ?_ | refine zae ?_ | refine zbz rfl ?_ | refine za1 rfl ?_ | refine zag rfl rfl ?_ | refine zb1 rfl rfl (by omega) (by assumption) rfl ?_)
  refine zv3 rfl rfl rfl p67 noC ?_
  by_cases hik : i = k
  ·subst hik
   rw [hp]
   repeat (first | refine za7 ?_ | refine za0 rfl ?_ | refine za8 ?_ | refine za5 ?_ | refine zbz rfl ?_ | refine zau ?_ | refine zak ?_ | refine zbf ?_ | refine za1 rfl ?_)
   exact zao ⟨.inr rfl, _, rfl, rfl⟩
  ·rw [hn i (by omega)]
   repeat (first | refine za0 rfl ?_ | refine za8 ?_ | refine za5 ?_ | refine zbd ?_ | refine zae ?_ | refine zbn rfl ?_ | refine za1 rfl ?_ | refine zav (op := .add) rfl rfl rfl ?_)
   rw [w1]
   exact zal (show l.length - (i + 1) < l.length - i by omega) (za9 (.cons rfl (.cons rfl (.cons rfl (.cons rfl .nil))))) ⟨i + 1, rfl, by omega, rfl⟩
 ·have h4 : ¬ ((i : Nat) : Int) < ((l.length : Nat) : Int) := of_decide_eq_false h3
  omega
end Go.Proofs.Ytfbeableaihooaa
