/-
  LAYERS IN PLAIN LEAN: what is raised along the order, and round by round, is the same.
-/
import Derived.Test.YtoagikifehmlpaaFP2
namespace Go.Proofs.Ytoagikifehmlpaa
open Go Go.Am
def rlx (o : List Int) (e : Nat × Nat) : List Int := o.set e.2 (max (o.getD e.2 0) (o.getD e.1 0 + 1))
def gZ (o : List Int) (v : Nat) : Int := o.getD v 0
theorem zlj {o : List Int} {v : Nat} {d : Int} (hv : v < o.length) (w : Nat) : gZ (o.set v d) w = if v = w then d else gZ o w := by
 unfold gZ
 rw [List.getD_eq_getElem?_getD, List.getD_eq_getElem?_getD, List.getElem?_set]
 by_cases h : v = w
 ·subst h
  rw [if_pos rfl, if_pos hv, if_pos rfl]
  rfl
 ·rw [if_neg h, if_neg h]
theorem gZ_ext {o o' : List Int} (hl : o.length = o'.length) (h : ∀ v, gZ o v = gZ o' v) : o = o' := by
 refine List.ext_getElem hl fun i h1 h2 => ?_
 have := h i
 unfold gZ at this
 rw [List.getD_eq_getElem?_getD, List.getD_eq_getElem?_getD, List.getElem?_eq_getElem h1, List.getElem?_eq_getElem h2] at this
 exact this
theorem zkj (o : List Int) (e : Nat × Nat) : (rlx o e).length = o.length := List.length_set ..
theorem zm3 (l : List (Nat × Nat)) : ∀ o : List Int, (l.foldl rlx o).length = o.length := by
 induction l with
 | nil => exact fun o => rfl
 | cons e l ih => exact fun o => (ih _).trans (zkj o e)
theorem zm2 {o : List Int} {e : Nat × Nat} (h : e.2 < o.length) (w : Nat) : gZ (rlx o e) w = if e.2 = w then max (gZ o e.2) (gZ o e.1 + 1) else gZ o w := zlj h w
structure Lay (E : List (Nat × Nat)) (m : Nat) (o : List Int) : Prop where
 len : o.length = m
 low : ∀ v, 0 ≤ gZ o v
 up : ∀ u v, (u, v) ∈ E → gZ o u + 1 ≤ gZ o v
 down : ∀ v, 0 < gZ o v → ∃ u, (u, v) ∈ E ∧ gZ o u = gZ o v - 1
theorem Lay.le {E : List (Nat × Nat)} {m : Nat} {o o' : List Int} (h : Lay E m o) (h' : Lay E m o') : ∀ (k v : Nat), gZ o v = (k : Int) → (k : Int) ≤ gZ o' v
 | 0, v, _ => h'.low v
 | k + 1, v, e => by
  obtain ⟨u, hu, e2⟩ := h.down v (by omega)
  have := Lay.le h h' k u (by omega)
  have := h'.up u v hu
  omega
theorem Lay.unique {E : List (Nat × Nat)} {m : Nat} {o o' : List Int} (h : Lay E m o) (h' : Lay E m o') : o = o' := by
 refine gZ_ext (h.len.trans h'.len.symm) fun v => ?_
 have a := Lay.le h h' (gZ o v).toNat v (by have := h.low v; omega)
 have b := Lay.le h' h (gZ o' v).toNat v (by have := h'.low v; omega)
 have := h.low v
 have := h'.low v
 omega
structure LyP (E : List (Nat × Nat)) (m : Nat) (p : List Nat) (o : List Int) : Prop where
 len : o.length = m
 low : ∀ v, 0 ≤ gZ o v
 up : ∀ u v, (u, v) ∈ E → u ∈ p → gZ o u + 1 ≤ gZ o v
 down : ∀ v, 0 < gZ o v → ∃ u, u ∈ p ∧ (u, v) ∈ E ∧ gZ o u = gZ o v - 1
structure LyQ (E : List (Nat × Nat)) (m : Nat) (x : Nat) (d : List Nat) (o o' : List Int) : Prop where
 len : o'.length = m
 same : ∀ v, v ∉ d → gZ o' v = gZ o v
 new : ∀ v, v ∈ d → gZ o' v = max (gZ o v) (gZ o x + 1)
theorem lyq {E : List (Nat × Nat)} {m x : Nat} {o : List Int} (hl : o.length = m) : ∀ d : List Nat, x ∉ d → (∀ v ∈ d, v < m) → LyQ E m x d o (d.foldl (fun o w => rlx o (x, w)) o) := by
 intro d
 induction d using zea with
 | h0 => exact fun _ _ => ⟨hl, fun _ _ => rfl, fun v h => absurd h List.not_mem_nil⟩
 | h1 d w ih =>
  intro hx hd
  have h := ih (fun h => hx (List.mem_append_left _ h)) fun v hv => hd v (List.mem_append_left _ hv)
  rw [List.foldl_append, List.foldl_cons, List.foldl_nil]
  generalize d.foldl (fun o w => rlx o (x, w)) o = o' at h
  have hw : w < o'.length := by rw [h.len]; exact hd w (by simp)
  have hxw : w ≠ x := fun e => hx (by rw [e]; simp)
  refine ⟨by rw [zkj]; exact h.len, fun v hv => ?_, fun v hv => ?_⟩
  ·rw [zm2 (e := (x, w)) hw, if_neg (fun e => hv (by rw [← e]; simp))]
   exact h.same v fun c => hv (List.mem_append_left _ c)
  ·rw [zm2 (e := (x, w)) hw]
   have hxs := h.same x fun c => hx (List.mem_append_left _ c)
   by_cases c : w = v
   ·subst c
    rw [if_pos rfl]
    show max (gZ o' w) (gZ o' x + 1) = _
    rw [hxs]
    by_cases c2 : w ∈ d
    ·rw [h.new w c2]
     omega
    ·rw [h.same w c2]
   ·rw [if_neg c]
    rcases List.mem_append.1 hv with hv | hv
    ·exact h.new v hv
    ·exact absurd (List.mem_singleton.1 hv).symm c
theorem LyP.step {E : List (Nat × Nat)} {m x : Nat} {l p s : List Nat} {o : List Int} (hb : ∀ u v, (u, v) ∈ E → u < m ∧ v < m) (ht : Top E m l) (e : l = p ++ x :: s) (h : LyP E m p o) : LyP E m (p ++ [x]) ((nbr E m x).foldl (fun o w => rlx o (x, w)) o) := by
 have hmem : ∀ w, w ∈ nbr E m x ↔ (x, w) ∈ E := fun w => zc4 fun u v h => (hb u v h).2
 have hnd : (p ++ x :: s).Nodup := e ▸ ht.nd
 have hxp : x ∉ p := fun hx => (List.nodup_append.1 hnd).2.2 x hx x (List.mem_cons_self ..) rfl
 have hno : ∀ w, (x, w) ∈ E → w ∉ p ∧ w ≠ x := fun w hw => by
  constructor
  ·intro hp
   obtain ⟨a, b, e2⟩ := List.append_of_mem hp
   have h2 := ht.pre a w (b ++ x :: s) (by rw [e, e2]; simp) x hw
   exact hxp (by rw [e2]; exact List.mem_append_left _ h2)
  ·rintro rfl
   exact hxp (ht.pre p w s e w hw)
 have q := lyq (E := E) (x := x) h.len (nbr E m x) (fun hx => (hno x ((hmem x).1 hx)).2 rfl) fun v hv => (hb _ _ ((hmem v).1 hv)).2
 generalize (nbr E m x).foldl (fun o w => rlx o (x, w)) o = o' at q
 have old : ∀ u, u ∈ p ++ [x] → gZ o' u = gZ o u := fun u hu => q.same u fun hm => by
  have := hno u ((hmem u).1 hm)
  rcases List.mem_append.1 hu with hu | hu
  ·exact this.1 hu
  ·exact this.2 (List.mem_singleton.1 hu)
 have ge : ∀ v, gZ o v ≤ gZ o' v := fun v => by
  by_cases c : v ∈ nbr E m x
  ·rw [q.new v c]; omega
  ·rw [q.same v c]; exact Int.le_refl _
 refine ⟨q.len, fun v => by have := ge v; have := h.low v; omega, fun u v huv hu => ?_, fun v hv => ?_⟩
 ·rw [old u hu]
  rcases List.mem_append.1 hu with hu | hu
  ·have := h.up u v huv hu
   have := ge v
   omega
  ·obtain rfl := List.mem_singleton.1 hu
   rw [q.new v ((hmem v).2 huv)]
   omega
 ·by_cases c : v ∈ nbr E m x ∧ gZ o v < gZ o x + 1
  ·refine ⟨x, by simp, (hmem v).1 c.1, ?_⟩
   rw [old x (by simp), q.new v c.1]
   omega
  ·have ev : gZ o' v = gZ o v := by
    by_cases c2 : v ∈ nbr E m x
    ·rw [q.new v c2]
     have : ¬ gZ o v < gZ o x + 1 := fun h => c ⟨c2, h⟩
     omega
    ·exact q.same v c2
   rw [ev] at hv ⊢
   obtain ⟨u, h1, h2, h3⟩ := h.down v hv
   refine ⟨u, List.mem_append_left _ h1, h2, ?_⟩
   rw [old u (List.mem_append_left _ h1)]
   exact h3
def zsn (E : List (Nat × Nat)) (m : Nat) (l : List Nat) : List Int := l.foldl (fun o x => (nbr E m x).foldl (fun o w => rlx o (x, w)) o) (List.replicate m 0)
theorem zli (m v : Nat) : gZ (List.replicate m (0 : Int)) v = 0 := by
 unfold gZ
 rw [List.getD_eq_getElem?_getD, List.getElem?_replicate]
 split <;> rfl
theorem zol {E : List (Nat × Nat)} {m : Nat} {l : List Nat} (hb : ∀ u v, (u, v) ∈ E → u < m ∧ v < m) (ht : Top E m l) : ∀ p s, l = p ++ s → LyP E m p (zsn E m p) := by
 intro p
 induction p using zea with
 | h0 =>
  intro s _
  have g := zli m
  refine ⟨List.length_replicate .., fun v => by show 0 ≤ gZ (List.replicate m 0) v; rw [g]; exact Int.le_refl _, fun u v _ h => absurd h List.not_mem_nil, fun v hv => ?_⟩
  have : gZ (List.replicate m 0) v > 0 := hv
  rw [g] at this
  omega
 | h1 p x ih =>
  intro s e
  have h := ih (x :: s) (by rw [e]; simp)
  unfold zsn at h ⊢
  rw [List.foldl_append, List.foldl_cons, List.foldl_nil]
  exact h.step (s := s) hb ht (by rw [e]; simp)
theorem layS_lay {E : List (Nat × Nat)} {m : Nat} {l : List Nat} (hb : ∀ u v, (u, v) ∈ E → u < m ∧ v < m) (ht : Top E m l) (hl : m ≤ l.length) : Lay E m (zsn E m l) := by
 have h := zol hb ht l [] (by simp)
 have ha := zqr ht.nd ht.lt hl
 exact ⟨h.len, h.low, fun u v huv => h.up u v huv (ha u (hb u v huv).1), fun v hv => by obtain ⟨u, _, b, c⟩ := h.down v hv; exact ⟨u, b, c⟩⟩
theorem low_le {m : Nat} {o : List Int} (hlen : o.length = m) (low : ∀ v, 0 ≤ gZ o v) (down : ∀ v, 0 < gZ o v → ∃ u, gZ o u = gZ o v - 1) (v : Nat) : gZ o v ≤ m := by
 have chain : ∀ (k : Nat) (v : Nat), gZ o v = (k : Int) → ∀ j : Nat, j ≤ k → ∃ u, gZ o u = (j : Int) := by
  intro k
  induction k with
  | zero => exact fun v e j hj => ⟨v, by rw [e]; omega⟩
  | succ k ih =>
   intro v e j hj
   by_cases hjk : j = k + 1
   ·exact ⟨v, by rw [e, hjk]⟩
   ·obtain ⟨u, e2⟩ := down v (by omega)
    exact ih u (by omega) j (by omega)
 have h0 := low v
 have hc := chain (gZ o v).toNat v (by omega)
 have := zco (a := (List.range (gZ o v).toNat).map fun j => ((j + 1 : Nat) : Int)) (b := o) ?_ ?_
 ·rw [List.length_map, List.length_range, hlen] at this
  omega
 ·exact List.pairwise_map.2 (List.nodup_range.imp fun {a b} h e => h (by omega))
 ·intro x hx
  obtain ⟨j, hj, rfl⟩ := List.mem_map.1 hx
  rw [List.mem_range] at hj
  obtain ⟨u, hu⟩ := hc (j + 1) (by omega)
  have hlt : u < o.length := by
   refine Nat.lt_of_not_le fun hle => ?_
   unfold gZ at hu
   rw [List.getD_eq_getElem?_getD, List.getElem?_eq_none hle] at hu
   have hu : (0 : Int) = ((j + 1 : Nat) : Int) := hu
   omega
  unfold gZ at hu
  rw [List.getD_eq_getElem?_getD, List.getElem?_eq_getElem hlt] at hu
  rw [← hu]
  exact List.getElem_mem hlt
theorem lay_le {E : List (Nat × Nat)} {m : Nat} {o : List Int} (h : Lay E m o) (v : Nat) : gZ o v ≤ m :=
 low_le h.len h.low (fun v hv => by obtain ⟨u, _, e⟩ := h.down v hv; exact ⟨u, e⟩) v
theorem LyP.le {E : List (Nat × Nat)} {m : Nat} {p : List Nat} {o : List Int} (h : LyP E m p o) (v : Nat) : gZ o v ≤ m :=
 low_le h.len h.low (fun v hv => by obtain ⟨u, _, _, e⟩ := h.down v hv; exact ⟨u, e⟩) v
def zgw (E : List (Nat × Nat)) (m r : Nat) : List Int := (List.range r).foldl (fun (o : List Int) (_ : Nat) => E.foldl rlx o) (List.replicate m 0)
theorem zem (E : List (Nat × Nat)) (m r : Nat) : zgw E m (r + 1) = E.foldl rlx (zgw E m r) := by
 unfold zgw
 rw [List.range_succ, List.foldl_append]
 rfl
theorem zey (E : List (Nat × Nat)) (m : Nat) : ∀ r, (zgw E m r).length = m
 | 0 => List.length_replicate ..
 | r + 1 => by rw [zem, zm3, zey E m r]
theorem zkk {E : List (Nat × Nat)} {m : Nat} {L o : List Int} (hL : Lay E m L) (hb : ∀ u v, (u, v) ∈ E → u < m ∧ v < m) (hl : o.length = m) (ho : ∀ v, gZ o v ≤ gZ L v) :
  ∀ p : List (Nat × Nat), (∀ e ∈ p, e ∈ E) → (p.foldl rlx o).length = m ∧ (∀ v, gZ (p.foldl rlx o) v ≤ gZ L v) ∧ (∀ v, gZ o v ≤ gZ (p.foldl rlx o) v) ∧ ∀ e ∈ p, gZ o e.1 + 1 ≤ gZ (p.foldl rlx o) e.2 := by
 intro p
 induction p using zea with
 | h0 => exact fun _ => ⟨hl, ho, fun v => Int.le_refl _, fun e h => absurd h List.not_mem_nil⟩
 | h1 p e ih =>
  intro hp
  obtain ⟨a, b, c, d⟩ := ih fun x hx => hp x (List.mem_append_left _ hx)
  have he : (e.1, e.2) ∈ E := hp e (by simp)
  rw [List.foldl_append, List.foldl_cons, List.foldl_nil]
  generalize p.foldl rlx o = o' at *
  have hw : e.2 < o'.length := by rw [a]; exact (hb _ _ he).2
  have hup := hL.up _ _ he
  refine ⟨by rw [zkj]; exact a, fun v => ?_, fun v => ?_, fun x hx => ?_⟩
  ·rw [zm2 hw]
   split
   ·rename_i e2
    subst e2
    have := b e.1
    have := b e.2
    omega
   ·exact b v
  ·rw [zm2 hw]
   split
   ·rename_i e2
    subst e2
    have := c e.2
    omega
   ·exact c v
  ·rw [zm2 hw]
   rcases List.mem_append.1 hx with hx | hx
   ·have := d x hx
    split
    ·rename_i e2
     rw [← e2] at this
     omega
    ·exact this
   ·obtain rfl := List.mem_singleton.1 hx
    rw [if_pos rfl]
    have := c x.1
    omega
theorem zn5 {E : List (Nat × Nat)} {m : Nat} {L : List Int} (hL : Lay E m L) (hb : ∀ u v, (u, v) ∈ E → u < m ∧ v < m) : ∀ r v, gZ (zgw E m r) v ≤ gZ L v
 | 0, v => by rw [show gZ (zgw E m 0) v = 0 from zli m v]; exact hL.low v
 | r + 1, v => by
  rw [zem]
  exact (zkk hL hb (zey E m r) (zn5 hL hb r) E fun _ h => h).2.1 v
theorem zok {E : List (Nat × Nat)} {m : Nat} {L : List Int} (hL : Lay E m L) (hb : ∀ u v, (u, v) ∈ E → u < m ∧ v < m) : ∀ r v, 0 ≤ gZ (zgw E m r) v
 | 0, v => by rw [show gZ (zgw E m 0) v = 0 from zli m v]; exact Int.le_refl _
 | r + 1, v => by
  rw [zem]
  exact Int.le_trans (zok hL hb r v) ((zkk hL hb (zey E m r) (zn5 hL hb r) E fun _ h => h).2.2.1 v)
theorem layR_eq {E : List (Nat × Nat)} {m : Nat} {L : List Int} (hL : Lay E m L) (hb : ∀ u v, (u, v) ∈ E → u < m ∧ v < m) : zgw E m m = L := by
 have key : ∀ r : Nat, (∀ v, gZ (zgw E m r) v ≤ gZ L v) ∧ ∀ v, gZ L v ≤ r → gZ (zgw E m r) v = gZ L v := by
  intro r
  induction r with
  | zero =>
   have g : ∀ v, gZ (zgw E m 0) v = 0 := zli m
   refine ⟨fun v => by rw [g]; exact hL.low v, fun v hv => ?_⟩
   rw [g]
   have := hL.low v
   omega
  | succ r ih =>
   obtain ⟨h1, h2⟩ := ih
   obtain ⟨a, b, c, d⟩ := zkk hL hb (zey E m r) h1 E fun _ h => h
   rw [zem]
   refine ⟨b, fun v hv => ?_⟩
   by_cases hlt : gZ L v ≤ (r : Int)
   ·have := h2 v hlt
    have := c v
    have := b v
    omega
   ·obtain ⟨u, hu, e⟩ := hL.down v (by omega)
    have := h2 u (by omega)
    have := d (u, v) hu
    have := b v
    have : gZ (zgw E m r) (u, v).1 = gZ (zgw E m r) u := rfl
    have : gZ (E.foldl rlx (zgw E m r)) (u, v).2 = gZ (E.foldl rlx (zgw E m r)) v := rfl
    omega
 refine gZ_ext ((zey E m m).trans hL.len.symm) fun v => (key m).2 v (lay_le hL v)
end Go.Proofs.Ytoagikifehmlpaa
