/-
  A LIST OF LISTS OF ITS OWN: what is known of the memory, by vertex.
-/
import Derived.Test.YtoagikifehmlpaaQE1
import Derived.Test.YtoagikifehmlpaaQS0
import Derived.Test.YtoagikifehmlpaaQF1
namespace Go.Proofs.Ytoagikifehmlpaa
open Go Go.Am
def upd {α : Type} (f : Nat → α) (a : Nat) (x : α) : Nat → α := fun v => if v = a then x else f v
theorem zap {α : Type} (f : Nat → α) (a : Nat) (x : α) : upd f a x a = x := if_pos rfl
theorem zaa {α : Type} (f : Nat → α) {a v : Nat} (x : α) (h : v ≠ a) : upd f a x v = f v := if_neg h
theorem map_set {α : Type} (f : Nat → α) (m a : Nat) (x : α) : ((List.range m).map f).set a x = (List.range m).map (upd f a x) := by
 refine List.ext_getElem (by simp) fun i h1 h2 => ?_
 rw [List.getElem_set, List.getElem_map, List.getElem_map, List.getElem_range]
 by_cases h : a = i
 ·subst h
  rw [if_pos rfl, zap]
 ·rw [if_neg h, zaa _ _ (fun e => h e.symm)]
structure Jn (m : Nat) (nz : Nat → Bool) (cv : Nat → AV) (C : Nat → List Int) (ids sps : Nat → Nat) (hp : List (Nat × Nat × AObj)) (nx : Nat) : Prop where
 top : Am.look 0 hp = some (1, .cells ((List.range m).map cv))
 cell : ∀ v, v < m → nz v = true → Am.look (ids v) hp = some (sps v, .cells ((C v).map (AV.int .i64)))
 pos : ∀ v, v < m → nz v = true → 0 < ids v ∧ ids v < nx
 inj : ∀ u v, u < m → v < m → nz u = true → nz v = true → ids u = ids v → u = v
 nx0 : 0 < nx
section
variable {m : Nat} {nz : Nat → Bool} {cv : Nat → AV} {C : Nat → List Int} {ids sps : Nat → Nat} {hp : List (Nat × Nat × AObj)} {nx : Nat}
theorem Jn.fresh (h : Jn m nz cv C ids sps hp nx) (ck : Nat) (o : AObj) : Jn m nz cv C ids sps ((nx, ck, o) :: hp) (nx + 1) :=
 ⟨by rw [za8, if_neg (by have := h.nx0; omega)]; exact h.top, fun v hv hz => by rw [za8, if_neg (by have := h.pos v hv hz; omega)]; exact h.cell v hv hz,
  fun v hv hz => by have := h.pos v hv hz; omega, h.inj, Nat.succ_pos _⟩
theorem Jn.junk (h : Jn m nz cv C ids sps hp nx) {j : Nat} (h0 : j ≠ 0) (hj : ∀ v, v < m → nz v = true → ids v ≠ j) (x : Nat × AObj) : Jn m nz cv C ids sps (zca j x hp) nx :=
 ⟨by rw [za7, if_neg h0]; exact h.top, fun v hv hz => by rw [za7, if_neg fun e => hj v hv hz e.symm]; exact h.cell v hv hz, h.pos, h.inj, h.nx0⟩
theorem Jn.block (h : Jn m nz cv C ids sps hp nx) {a : Nat} (ha : a < m) (hz : nz a = true) (sp : Nat) (D : List Int) : Jn m nz cv (upd C a D) ids (upd sps a sp) (zca (ids a) (sp, .cells (D.map (AV.int .i64))) hp) nx := by
 refine ⟨by rw [za7, if_neg (by have := h.pos a ha hz; omega)]; exact h.top, fun v hv hzv => ?_, h.pos, h.inj, h.nx0⟩
 rw [za7]
 by_cases e : v = a
 ·subst e
  rw [if_pos rfl, zap, zap]
 ·rw [if_neg fun e2 => e (h.inj v a hv ha hzv hz e2.symm), zaa _ _ e, zaa _ _ e]
  exact h.cell v hv hzv
theorem Jn.cset (h : Jn m nz cv C ids sps hp nx) (a : Nat) (x : AV) : Jn m nz (upd cv a x) C ids sps (zca 0 (1, .cells (((List.range m).map cv).set a x)) hp) nx :=
 ⟨by rw [za7, if_pos rfl, map_set], fun v hv hz => by rw [za7, if_neg (by have := h.pos v hv hz; omega)]; exact h.cell v hv hz, h.pos, h.inj, h.nx0⟩
theorem Jn.add (h : Jn m nz cv C ids sps hp nx) (a ck : Nat) (D : List Int) : Jn m (upd nz a true) cv (upd C a D) (upd ids a nx) (upd sps a ck) ((nx, ck, .cells (D.map (AV.int .i64))) :: hp) (nx + 1) := by
 refine ⟨by rw [za8, if_neg (by have := h.nx0; omega)]; exact h.top, fun v hv hz => ?_, fun v hv hz => ?_, fun u v hu hv hzu hzv e => ?_, Nat.succ_pos _⟩
 ·by_cases e : v = a
  ·subst e
   rw [zap, zap, zap, za8, if_pos rfl]
  ·rw [zaa _ _ e] at hz
   rw [zaa _ _ e, zaa _ _ e, zaa _ _ e, za8, if_neg (by have := h.pos v hv hz; omega)]
   exact h.cell v hv hz
 ·by_cases e : v = a
  ·subst e
   rw [zap]
   have := h.nx0
   omega
  ·rw [zaa _ _ e] at hz ⊢
   have := h.pos v hv hz
   omega
 ·by_cases e1 : u = a
  ·by_cases e2 : v = a
   ·rw [e1, e2]
   ·rw [zaa _ _ e2] at hzv
    subst e1
    rw [zap, zaa _ _ e2] at e
    have := h.pos v hv hzv
    omega
  ·rw [zaa _ _ e1] at hzu
   by_cases e2 : v = a
   ·subst e2
    rw [zap, zaa _ _ e1] at e
    have := h.pos u hu hzu
    omega
   ·rw [zaa _ _ e2] at hzv
    rw [zaa _ _ e1, zaa _ _ e2] at e
    exact h.inj u v hu hv hzu hzv e
theorem Jn.get (h : Jn m nz cv C ids sps hp nx) {a : Nat} (ha : a < m) : ((List.range m).map cv)[a]? = some (cv a) := by
 rw [List.getElem?_map, List.getElem?_range ha]
 rfl
def fzJ (m : Nat) (nz : Nat → Bool) (C : Nat → List Int) (ids sps : Nat → Nat) : List (Nat × Nat × List AV) := ((List.range m).filter nz).map fun v => (ids v, sps v, (C v).map (AV.int .i64))
theorem fzl_of {id sp : Nat} {cs : List AV} : ∀ {l : List (Nat × Nat × List AV)}, (id, sp, cs) ∈ l → (∀ x ∈ l, x.1 = id → x.2.2 = cs) → fzl id sp l = some cs
 | [], h, _ => by cases h
 | (i, s, ds) :: l, h, hu => by
  rw [fzl]
  cases hb : Nat.beq i id && Nat.beq s sp with
  | true =>
   rw [Bool.and_eq_true] at hb
   have := hu (i, s, ds) (List.mem_cons_self ..) (Nat.eq_of_beq_eq_true hb.1)
   exact congrArg some this
  | false =>
   refine fzl_of ((List.mem_cons.1 h).resolve_left fun e => ?_) fun x hx => hu x (List.mem_cons_of_mem _ hx)
   injection e with e1 e2
   injection e2 with e2 e3
   subst e1 e2
   rw [Nat.beq_refl, Nat.beq_refl] at hb
   cases hb
theorem rnF_of {hp : List (Nat × Nat × AObj)} : ∀ {l : List (Nat × Nat × List AV)}, (∀ x ∈ l, Am.look x.1 hp = some (x.2.1, .cells x.2.2) ∧ hasM.hasML x.2.2 = false) → RnF hp l
 | [], _ => .nil
 | (_, _, _) :: l, h => .cons (h _ (List.mem_cons_self ..)).1 (h _ (List.mem_cons_self ..)).2 (rnF_of fun x hx => h x (List.mem_cons_of_mem _ hx))
theorem rnC_of {live : zh4} {fz : List (Nat × Nat × List AV)} {f g : Nat → AV} : ∀ {l : List Nat}, (∀ v ∈ l, RenW live fz (f v) (g v)) → RnC live fz (l.map f) (l.map g)
 | [], _ => .nil
 | v :: l, h => .cons (h v (List.mem_cons_self ..)) (rnC_of fun x hx => h x (List.mem_cons_of_mem _ hx))
theorem Jn.fzl (h : Jn m nz cv C ids sps hp nx) {v : Nat} (hv : v < m) (hz : nz v = true) : Am.fzl (ids v) (sps v) (fzJ m nz C ids sps) = some ((C v).map (AV.int .i64)) := by
 refine fzl_of (List.mem_map.2 ⟨v, List.mem_filter.2 ⟨List.mem_range.2 hv, hz⟩, rfl⟩) fun x hx e => ?_
 obtain ⟨u, hu, rfl⟩ := List.mem_map.1 hx
 obtain ⟨h1, h2⟩ := List.mem_filter.1 hu
 rw [h.inj u v (List.mem_range.1 h1) hv h2 hz e]
theorem Jn.rnF (h : Jn m nz cv C ids sps hp nx) : RnF hp (fzJ m nz C ids sps) := rnF_of fun x hx => by
 obtain ⟨u, hu, rfl⟩ := List.mem_map.1 hx
 obtain ⟨h1, h2⟩ := List.mem_filter.1 hu
 exact ⟨h.cell u (List.mem_range.1 h1) h2, zg6 _⟩
theorem Jn.ok (h : Jn m nz cv C ids sps hp nx) (cs : List AV) : okW ((fzJ m nz C ids sps).map (·.1)) [(some (0, 1), cs)] = true := by
 show (!zq6 0 ((fzJ m nz C ids sps).map (·.1)) && true) = true
 have : zq6 0 ((fzJ m nz C ids sps).map (·.1)) = false := by
  cases hb : zq6 0 ((fzJ m nz C ids sps).map (·.1)) with
  | false => rfl
  | true =>
   obtain ⟨x, hx, e⟩ := List.mem_map.1 (zgv.1 hb)
   obtain ⟨u, hu, rfl⟩ := List.mem_map.1 hx
   obtain ⟨h1, h2⟩ := List.mem_filter.1 hu
   have := (h.pos u (List.mem_range.1 h1) h2).1
   exact absurd e (Nat.ne_of_gt this)
 rw [this]
 rfl
end
theorem zj8 (m : Nat) (x : AV) : zev m [x] = (List.range m).map fun _ => x := by
 have h : ∀ m : Nat, zev m [x] = List.replicate m x := by
  intro m
  induction m with
  | zero => rfl
  | succ m ih => exact (congrArg ([x] ++ ·) ih)
 rw [h, List.map_const', List.length_range]
def zal (E : List (Nat × Nat)) : List (Int × Int) := E.map fun e => ((e.1 : Nat), (e.2 : Nat))
theorem zhb {E : List (Nat × Nat)} {i : Nat} (h : i < E.length) : (cE (zal E))[((i : Nat) : Int).toNat]? = some [.int .i64 (E[i].1 : Nat), .int .i64 (E[i].2 : Nat)] := by
 unfold cE zal
 rw [Int.toNat_natCast, List.getElem?_map, List.getElem?_map, List.getElem?_eq_getElem h]
 rfl
def vN (l : List Nat) : AV := .vs (l.map fun w => [.int .i64 (w : Nat)])
def cN (E : List (Nat × Nat)) (m : Nat) : AV := .vs ((List.range m).map fun v => [vN (nbr E m v)])
theorem raw_step {E : List (Nat × Nat)} {i : Nat} (h : i < E.length) (v : Nat) : raw (E.take (i + 1)) v = if E[i].1 = v then raw (E.take i) v ++ [((E[i].2 : Nat) : Int)] else raw (E.take i) v := by
 unfold raw
 rw [List.take_add_one, List.getElem?_eq_getElem h]
 show ((E.take i ++ [E[i]]).filter _).map _ = _
 rw [List.filter_append, List.map_append, List.filter_cons]
 by_cases e : E[i].1 = v
 ·rw [if_pos (by simpa using e), if_pos e]
  rfl
 ·rw [if_neg (by simpa using e), if_neg e, List.filter_nil, List.map_nil, List.append_nil]
end Go.Proofs.Ytoagikifehmlpaa
