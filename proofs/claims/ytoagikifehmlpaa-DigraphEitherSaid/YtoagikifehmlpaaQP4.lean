/-
  ORDERS IN PLAIN LEAN: the least vertex whose predecessors are all out; no order exactly if there is a cycle; layers.
-/
import Derived.Test.YtoagikifehmlpaaQP1
namespace Go.Proofs.Ytoagikifehmlpaa
open Go Go.Am
def rdyB (E : List (Nat × Nat)) (out : List Nat) (v : Nat) : Bool := E.all (fun e => !(e.2 == v) || out.contains e.1) && !(out.contains v)
theorem zkd {E : List (Nat × Nat)} {out : List Nat} {v : Nat} : rdyB E out v = true ↔ (∀ u, (u, v) ∈ E → u ∈ out) ∧ v ∉ out := by
 unfold rdyB
 rw [Bool.and_eq_true, List.all_eq_true]
 constructor
 ·rintro ⟨h1, h2⟩
  refine ⟨fun u hu => ?_, fun hv => ?_⟩
  ·have := h1 _ hu
   simpa using this
  ·have := List.contains_iff_mem.2 hv
   rw [this] at h2
   cases h2
 ·rintro ⟨h1, h2⟩
  refine ⟨fun e he => ?_, ?_⟩
  ·by_cases c : e.2 = v
   ·subst c
    have := h1 e.1 he
    simp [this]
   ·simp [c]
  ·simp [h2]
def nxS (E : List (Nat × Nat)) (m : Nat) (out : List Nat) : Option Nat := (List.range m).find? (rdyB E out)
def zm1 (E : List (Nat × Nat)) (m : Nat) : Nat → List Nat → Option (List Nat)
 | 0, out => some out
 | k + 1, out => match nxS E m out with
  | some v => zm1 E m k (out ++ [v])
  | none => none
structure Top (E : List (Nat × Nat)) (m : Nat) (out : List Nat) : Prop where
 nd : out.Nodup
 lt : ∀ v ∈ out, v < m
 pre : ∀ p v s, out = p ++ v :: s → ∀ u, (u, v) ∈ E → u ∈ p
theorem Top.nil (E : List (Nat × Nat)) (m : Nat) : Top E m [] := ⟨List.nodup_nil, fun v h => absurd h List.not_mem_nil, fun p v s h => by simp at h⟩
theorem zsl {E : List (Nat × Nat)} {m v : Nat} {out : List Nat} (h : nxS E m out = some v) : v < m ∧ (∀ u, (u, v) ∈ E → u ∈ out) ∧ v ∉ out := by
 unfold nxS at h
 exact ⟨List.mem_range.1 (List.mem_of_find?_eq_some h), zkd.1 (List.find?_some h)⟩
theorem zpp {out : List Nat} {v : Nat} (h : out.Nodup) (hv : v ∉ out) : (out ++ [v]).Nodup := by
 rw [List.nodup_append]
 refine ⟨h, List.nodup_cons.2 ⟨List.not_mem_nil, List.nodup_nil⟩, fun a ha b hb => ?_⟩
 obtain rfl := List.mem_singleton.1 hb
 exact fun e => hv (e ▸ ha)
theorem Top.snoc {E : List (Nat × Nat)} {m v : Nat} {out : List Nat} (h : Top E m out) (hv : nxS E m out = some v) : Top E m (out ++ [v]) := by
 obtain ⟨a, b, c⟩ := zsl hv
 refine ⟨zpp h.nd c, fun w hw => ?_, fun p w s e u hu => ?_⟩
 ·rcases List.mem_append.1 hw with hw | hw
  ·exact h.lt w hw
  ·obtain rfl := List.mem_singleton.1 hw
   exact a
 ·rcases List.append_eq_append_iff.1 e with ⟨xs, e1, e2⟩ | ⟨cs, e1, e2⟩
  ·-- p = out ++ xs, [v] = xs ++ w :: s
   cases xs with
   | nil =>
    rw [List.nil_append] at e2
    injection e2 with e3 e4
    subst e3
    rw [e1, List.append_nil]
    exact b u hu
   | cons x xs =>
    rw [List.cons_append] at e2
    injection e2 with e3 e4
    simp at e4
  ·-- out = p ++ cs, w :: s = cs ++ [v]
   cases cs with
   | nil =>
    rw [List.nil_append] at e2
    injection e2 with e3 e4
    subst e3
    rw [List.append_nil] at e1
    rw [← e1]
    exact b u hu
   | cons x cs =>
    rw [List.cons_append] at e2
    injection e2 with e3 e4
    subst e3
    exact h.pre p w cs e1 u hu
theorem zov {E : List (Nat × Nat)} {m : Nat} : ∀ {k : Nat} {out l : List Nat}, Top E m out → zm1 E m k out = some l → Top E m l ∧ l.length = out.length + k
 | 0, out, l, h, e => by
  injection e with e
  subst e
  exact ⟨h, rfl⟩
 | k + 1, out, l, h, e => by
  rw [zm1] at e
  split at e
  ·rename_i v hv
   obtain ⟨a, b⟩ := zov (h.snoc hv) e
   refine ⟨a, ?_⟩
   rw [b, List.length_append, List.length_singleton]
   omega
  ·cases e
theorem zlv {E : List (Nat × Nat)} {m : Nat} : ∀ {k : Nat} {out : List Nat}, Top E m out → out.length + k ≤ m → zm1 E m k out = none → ∃ out', Top E m out' ∧ out'.length < m ∧ nxS E m out' = none
 | 0, out, h, _, e => by cases e
 | k + 1, out, h, hl, e => by
  rw [zm1] at e
  split at e
  ·rename_i v hv
   exact zlv (h.snoc hv) (by rw [List.length_append, List.length_singleton]; omega) e
  ·rename_i hv
   exact ⟨out, h, by omega, hv⟩
theorem ze5 : ∀ {a b : List Nat}, a.Nodup → (∀ x ∈ a, x ∈ b) → a.length ≤ b.length
 | [], _, _, _ => Nat.zero_le _
 | x :: a, b, hn, hs => by
  obtain ⟨h1, h2⟩ := List.nodup_cons.1 hn
  have hx := hs x (List.mem_cons_self ..)
  have := ze5 (a := a) (b := b.erase x) h2 fun y hy => (List.mem_erase_of_ne (fun e => h1 (by rw [← e]; exact hy))).2 (hs y (List.mem_cons_of_mem _ hy))
  rw [List.length_erase_of_mem hx] at this
  have := List.length_pos_of_mem hx
  rw [List.length_cons]
  omega
theorem all_in {m : Nat} {l : List Nat} (nd : l.Nodup) (lt : ∀ v ∈ l, v < m) (hl : m ≤ l.length) : ∀ v, v < m → v ∈ l := by
 intro v hv
 by_cases c : v ∈ l
 ·exact c
 ·have := ze5 (a := v :: l) (b := List.range m) (List.nodup_cons.2 ⟨c, nd⟩) fun x hx => by
   rw [List.mem_range]
   rcases List.mem_cons.1 hx with rfl | hx
   ·exact hv
   ·exact lt x hx
  rw [List.length_cons, List.length_range] at this
  omega
theorem some_out {m : Nat} {l : List Nat} (hl : l.length < m) : ∃ v, v < m ∧ v ∉ l := by
 refine Classical.byContradiction fun h => ?_
 have := ze5 (a := List.range m) (b := l) List.nodup_range fun x hx => by
  refine Classical.byContradiction fun c => h ⟨x, List.mem_range.1 hx, c⟩
 rw [List.length_range] at this
 omega
def Cyc (E : List (Nat × Nat)) (v : Nat) : Prop := ∃ k, Wk E (k + 1) v v
theorem Wk.trans {E : List (Nat × Nat)} {a b c j k : Nat} (h : Wk E j a b) (h2 : Wk E k b c) : Wk E (j + k) a c := by
 induction h2 with
 | refl => exact h
 | step h2 e ih => exact .step (ih h) e
def bk (f : Nat → Nat) : Nat → Nat → Nat
 | 0, v => v
 | k + 1, v => f (bk f k v)
theorem zjh {E : List (Nat × Nat)} {R : Nat → Prop} {f : Nat → Nat} (hf : ∀ v, R v → R (f v) ∧ (f v, v) ∈ E) {v : Nat} (hv : R v) : ∀ k, R (bk f k v)
 | 0 => hv
 | k + 1 => (hf _ (zjh hf hv k)).1
theorem bk_wk {E : List (Nat × Nat)} {R : Nat → Prop} {f : Nat → Nat} (hf : ∀ v, R v → R (f v) ∧ (f v, v) ∈ E) {v : Nat} (hv : R v) (i : Nat) : ∀ j, Wk E j (bk f (i + j) v) (bk f i v)
 | 0 => .refl _
 | j + 1 => Wk.cons (hf _ (zjh hf hv (i + j))).2 (bk_wk hf hv i j)
theorem cyc_of {E : List (Nat × Nat)} {m : Nat} {R : Nat → Prop} (hR : ∀ v, R v → v < m) (hp : ∀ v, R v → ∃ u, R u ∧ (u, v) ∈ E) {v : Nat} (hv : R v) : ∃ w, R w ∧ Cyc E w := by
 have hf : ∃ f : Nat → Nat, ∀ v, R v → R (f v) ∧ (f v, v) ∈ E := by
  have hc : ∀ v, ∃ u, R v → R u ∧ (u, v) ∈ E := fun v => by
   by_cases c : R v
   ·obtain ⟨u, h⟩ := hp v c
    exact ⟨u, fun _ => h⟩
   ·exact ⟨0, fun h => absurd h c⟩
  exact ⟨fun v => Classical.choose (hc v), fun v h => Classical.choose_spec (hc v) h⟩
 obtain ⟨f, hf⟩ := hf
 -- two of m + 1 are the same
 have hd : ¬ ((List.range (m + 1)).map fun k => bk f k v).Nodup := fun nd => by
  have := ze5 (b := List.range m) nd fun x hx => by
   obtain ⟨k, _, rfl⟩ := List.mem_map.1 hx
   exact List.mem_range.2 (hR _ (zjh hf hv k))
  rw [List.length_map, List.length_range, List.length_range] at this
  omega
 have hex : ∃ i j, i < j ∧ bk f i v = bk f j v := by
  refine Classical.byContradiction fun h => hd ?_
  refine List.pairwise_map.2 (List.pairwise_lt_range.imp fun {a b} hab e => h ⟨a, b, hab, e⟩)
 obtain ⟨i, j, hij, e⟩ := hex
 have w := bk_wk hf hv i (j - i)
 rw [show i + (j - i) = j by omega, ← e] at w
 exact ⟨bk f i v, zjh hf hv i, j - i - 1, by rw [show j - i - 1 + 1 = j - i by omega]; exact w⟩
theorem srt_cyc {E : List (Nat × Nat)} {m : Nat} (hb : ∀ u v, (u, v) ∈ E → u < m ∧ v < m) (h : zm1 E m m [] = none) : ∃ w, w < m ∧ Cyc E w := by
 obtain ⟨out, ht, hl, hn⟩ := zlv (Top.nil E m) (Nat.le_of_eq (Nat.zero_add m)) h
 obtain ⟨v, hv, hvo⟩ := some_out hl
 obtain ⟨w, h1, h2⟩ := cyc_of (E := E) (m := m) (R := fun v => v < m ∧ v ∉ out) (fun v h => h.1) (fun v ⟨h1, h2⟩ => by
  unfold nxS at hn
  have h3 := List.find?_eq_none.1 hn v (List.mem_range.2 h1)
  refine Classical.byContradiction fun hx => h3 (zkd.2 ⟨fun u hu => ?_, h2⟩)
  exact Classical.byContradiction fun hc => hx ⟨u, ⟨(hb u v hu).1, hc⟩, hu⟩) ⟨hv, hvo⟩
 exact ⟨w, h1.1, h2⟩
theorem zle {l : List Nat} {v : Nat} (h : v ∈ l) : ∃ p s, l = p ++ v :: s ∧ v ∉ p ∧ l.idxOf v = p.length := by
 induction l with
 | nil => exact absurd h List.not_mem_nil
 | cons x l ih =>
  by_cases c : x = v
  ·subst c
   exact ⟨[], l, rfl, List.not_mem_nil, by rw [List.idxOf_cons_self]; rfl⟩
  ·rcases List.mem_cons.1 h with h | h
   ·exact absurd h.symm c
   ·obtain ⟨p, s, e, hn, hi⟩ := ih h
    refine ⟨x :: p, s, by rw [e]; rfl, fun hm => ?_, ?_⟩
    ·rcases List.mem_cons.1 hm with hm | hm
     ·exact c hm.symm
     ·exact hn hm
    ·rw [List.idxOf_cons, show (x == v) = false from beq_eq_false_iff_ne.2 c, hi]
     rfl
theorem Top.edge {E : List (Nat × Nat)} {m : Nat} {l : List Nat} (h : Top E m l) {u v : Nat} (he : (u, v) ∈ E) (hv : v ∈ l) : u ∈ l ∧ l.idxOf u < l.idxOf v := by
 obtain ⟨p, s, e, hn, hi⟩ := zle hv
 have hu := h.pre p v s e u he
 refine ⟨by rw [e]; exact List.mem_append_left _ hu, ?_⟩
 rw [hi, e, List.idxOf_append, if_pos hu]
 exact List.idxOf_lt_length_iff.2 hu
theorem Top.walk {E : List (Nat × Nat)} {m : Nat} {l : List Nat} (h : Top E m l) {k u v : Nat} (w : Wk E k u v) : v ∈ l → u ∈ l ∧ l.idxOf u + k ≤ l.idxOf v := by
 induction w with
 | refl => exact fun h => ⟨h, Nat.le_refl _⟩
 | step w e ih =>
  intro hv
  obtain ⟨a, b⟩ := h.edge e hv
  obtain ⟨c, d⟩ := ih a
  exact ⟨c, by omega⟩
theorem zow {E : List (Nat × Nat)} {m : Nat} {l : List Nat} (h : zm1 E m m [] = some l) : Top E m l ∧ l.length = m ∧ ∀ v, v < m → ¬ Cyc E v := by
 obtain ⟨a, b⟩ := zov (Top.nil E m) h
 have b : l.length = m := by rw [b]; exact Nat.zero_add m
 refine ⟨a, b, fun v hv ⟨k, w⟩ => ?_⟩
 have := a.walk w (all_in a.nd a.lt (by omega) v hv)
 omega
end Go.Proofs.Ytoagikifehmlpaa
namespace Go.Proofs.Ytoagikifehmlpaa
open Go Go.Am
def rlx (o : List Int) (e : Nat × Nat) : List Int := o.set e.2 (max (o.getD e.2 0) (o.getD e.1 0 + 1))
def gZ (o : List Int) (v : Nat) : Int := o.getD v 0
theorem zl8 {o : List Int} {v : Nat} {d : Int} (hv : v < o.length) (w : Nat) : gZ (o.set v d) w = if v = w then d else gZ o w := by
 unfold gZ
 rw [List.getD_eq_getElem?_getD, List.getD_eq_getElem?_getD, List.getElem?_set]
 by_cases h : v = w
 ·subst h
  rw [if_pos rfl, if_pos hv, if_pos rfl]
  rfl
 ·rw [if_neg h, if_neg h]
theorem gZ_ext {o o' : List Int} (hl : o.length = o'.length) (h : ∀ v, gZ o v = gZ o' v) : o = o' := by
 refine List.ext_getElem hl fun i h1 h2 => ?_
 have := h i
 unfold gZ at this
 rw [List.getD_eq_getElem?_getD, List.getD_eq_getElem?_getD, List.getElem?_eq_getElem h1, List.getElem?_eq_getElem h2] at this
 exact this
theorem rlx_len (o : List Int) (e : Nat × Nat) : (rlx o e).length = o.length := List.length_set ..
theorem rlx_at {o : List Int} {e : Nat × Nat} (h : e.2 < o.length) (w : Nat) : gZ (rlx o e) w = if e.2 = w then max (gZ o e.2) (gZ o e.1 + 1) else gZ o w := zl8 h w
structure Lay (E : List (Nat × Nat)) (m : Nat) (o : List Int) : Prop where
 len : o.length = m
 low : ∀ v, 0 ≤ gZ o v
 up : ∀ u v, (u, v) ∈ E → gZ o u + 1 ≤ gZ o v
 down : ∀ v, 0 < gZ o v → ∃ u, (u, v) ∈ E ∧ gZ o u = gZ o v - 1
theorem Lay.le {E : List (Nat × Nat)} {m : Nat} {o o' : List Int} (h : Lay E m o) (h' : Lay E m o') : ∀ (k v : Nat), gZ o v = (k : Int) → (k : Int) ≤ gZ o' v
 | 0, v, _ => h'.low v
 | k + 1, v, e => by
  obtain ⟨u, hu, e2⟩ := h.down v (by omega)
  have := Lay.le h h' k u (by omega)
  have := h'.up u v hu
  omega
theorem Lay.unique {E : List (Nat × Nat)} {m : Nat} {o o' : List Int} (h : Lay E m o) (h' : Lay E m o') : o = o' := by
 refine gZ_ext (h.len.trans h'.len.symm) fun v => ?_
 have a := Lay.le h h' (gZ o v).toNat v (by have := h.low v; omega)
 have b := Lay.le h' h (gZ o' v).toNat v (by have := h'.low v; omega)
 have := h.low v
 have := h'.low v
 omega
structure LyP (E : List (Nat × Nat)) (m : Nat) (p : List Nat) (o : List Int) : Prop where
 len : o.length = m
 low : ∀ v, 0 ≤ gZ o v
 up : ∀ u v, (u, v) ∈ E → u ∈ p → gZ o u + 1 ≤ gZ o v
 down : ∀ v, 0 < gZ o v → ∃ u, u ∈ p ∧ (u, v) ∈ E ∧ gZ o u = gZ o v - 1
structure LyQ (E : List (Nat × Nat)) (m : Nat) (x : Nat) (d : List Nat) (o o' : List Int) : Prop where
 len : o'.length = m
 same : ∀ v, v ∉ d → gZ o' v = gZ o v
 new : ∀ v, v ∈ d → gZ o' v = max (gZ o v) (gZ o x + 1)
theorem lyq {E : List (Nat × Nat)} {m x : Nat} {o : List Int} (hl : o.length = m) : ∀ d : List Nat, x ∉ d → (∀ v ∈ d, v < m) → LyQ E m x d o (d.foldl (fun o w => rlx o (x, w)) o) := by
 intro d
 induction d using zfw with
 | h0 => exact fun _ _ => ⟨hl, fun _ _ => rfl, fun v h => absurd h List.not_mem_nil⟩
 | h1 d w ih =>
  intro hx hd
  have h := ih (fun h => hx (List.mem_append_left _ h)) fun v hv => hd v (List.mem_append_left _ hv)
  rw [List.foldl_append, List.foldl_cons, List.foldl_nil]
  generalize d.foldl (fun o w => rlx o (x, w)) o = o' at h
  have hw : w < o'.length := by rw [h.len]; exact hd w (by simp)
  have hxw : w ≠ x := fun e => hx (by rw [e]; simp)
  refine ⟨by rw [rlx_len]; exact h.len, fun v hv => ?_, fun v hv => ?_⟩
  ·rw [rlx_at (e := (x, w)) hw, if_neg (fun e => hv (by rw [← e]; simp))]
   exact h.same v fun c => hv (List.mem_append_left _ c)
  ·rw [rlx_at (e := (x, w)) hw]
   have hxs := h.same x fun c => hx (List.mem_append_left _ c)
   by_cases c : w = v
   ·subst c
    rw [if_pos rfl]
    show max (gZ o' w) (gZ o' x + 1) = _
    rw [hxs]
    by_cases c2 : w ∈ d
    ·rw [h.new w c2]
     omega
    ·rw [h.same w c2]
   ·rw [if_neg c]
    rcases List.mem_append.1 hv with hv | hv
    ·exact h.new v hv
    ·exact absurd (List.mem_singleton.1 hv).symm c
theorem LyP.step {E : List (Nat × Nat)} {m x : Nat} {l p s : List Nat} {o : List Int} (hb : ∀ u v, (u, v) ∈ E → u < m ∧ v < m) (ht : Top E m l) (e : l = p ++ x :: s) (h : LyP E m p o) : LyP E m (p ++ [x]) ((nbr E m x).foldl (fun o w => rlx o (x, w)) o) := by
 have hmem : ∀ w, w ∈ nbr E m x ↔ (x, w) ∈ E := fun w => zc9 fun u v h => (hb u v h).2
 have hnd : (p ++ x :: s).Nodup := e ▸ ht.nd
 have hxp : x ∉ p := fun hx => (List.nodup_append.1 hnd).2.2 x hx x (List.mem_cons_self ..) rfl
 have hno : ∀ w, (x, w) ∈ E → w ∉ p ∧ w ≠ x := fun w hw => by
  constructor
  ·intro hp
   obtain ⟨a, b, e2⟩ := List.append_of_mem hp
   have h2 := ht.pre a w (b ++ x :: s) (by rw [e, e2]; simp) x hw
   exact hxp (by rw [e2]; exact List.mem_append_left _ h2)
  ·rintro rfl
   exact hxp (ht.pre p w s e w hw)
 have q := lyq (E := E) (x := x) h.len (nbr E m x) (fun hx => (hno x ((hmem x).1 hx)).2 rfl) fun v hv => (hb _ _ ((hmem v).1 hv)).2
 generalize (nbr E m x).foldl (fun o w => rlx o (x, w)) o = o' at q
 have old : ∀ u, u ∈ p ++ [x] → gZ o' u = gZ o u := fun u hu => q.same u fun hm => by
  have := hno u ((hmem u).1 hm)
  rcases List.mem_append.1 hu with hu | hu
  ·exact this.1 hu
  ·exact this.2 (List.mem_singleton.1 hu)
 have ge : ∀ v, gZ o v ≤ gZ o' v := fun v => by
  by_cases c : v ∈ nbr E m x
  ·rw [q.new v c]; omega
  ·rw [q.same v c]; exact Int.le_refl _
 refine ⟨q.len, fun v => by have := ge v; have := h.low v; omega, fun u v huv hu => ?_, fun v hv => ?_⟩
 ·rw [old u hu]
  rcases List.mem_append.1 hu with hu | hu
  ·have := h.up u v huv hu
   have := ge v
   omega
  ·obtain rfl := List.mem_singleton.1 hu
   rw [q.new v ((hmem v).2 huv)]
   omega
 ·by_cases c : v ∈ nbr E m x ∧ gZ o v < gZ o x + 1
  ·refine ⟨x, by simp, (hmem v).1 c.1, ?_⟩
   rw [old x (by simp), q.new v c.1]
   omega
  ·have ev : gZ o' v = gZ o v := by
    by_cases c2 : v ∈ nbr E m x
    ·rw [q.new v c2]
     have : ¬ gZ o v < gZ o x + 1 := fun h => c ⟨c2, h⟩
     omega
    ·exact q.same v c2
   rw [ev] at hv ⊢
   obtain ⟨u, h1, h2, h3⟩ := h.down v hv
   refine ⟨u, List.mem_append_left _ h1, h2, ?_⟩
   rw [old u (List.mem_append_left _ h1)]
   exact h3
theorem gZ_rep (m v : Nat) : gZ (List.replicate m (0 : Int)) v = 0 := by
 unfold gZ
 rw [List.getD_eq_getElem?_getD, List.getElem?_replicate]
 split <;> rfl
theorem low_le {m : Nat} {o : List Int} (hlen : o.length = m) (low : ∀ v, 0 ≤ gZ o v) (down : ∀ v, 0 < gZ o v → ∃ u, gZ o u = gZ o v - 1) (v : Nat) : gZ o v ≤ m := by
 have chain : ∀ (k : Nat) (v : Nat), gZ o v = (k : Int) → ∀ j : Nat, j ≤ k → ∃ u, gZ o u = (j : Int) := by
  intro k
  induction k with
  | zero => exact fun v e j hj => ⟨v, by rw [e]; omega⟩
  | succ k ih =>
   intro v e j hj
   by_cases hjk : j = k + 1
   ·exact ⟨v, by rw [e, hjk]⟩
   ·obtain ⟨u, e2⟩ := down v (by omega)
    exact ih u (by omega) j (by omega)
 have h0 := low v
 have hc := chain (gZ o v).toNat v (by omega)
 have := zcj (a := (List.range (gZ o v).toNat).map fun j => ((j + 1 : Nat) : Int)) (b := o) ?_ ?_
 ·rw [List.length_map, List.length_range, hlen] at this
  omega
 ·exact List.pairwise_map.2 (List.nodup_range.imp fun {a b} h e => h (by omega))
 ·intro x hx
  obtain ⟨j, hj, rfl⟩ := List.mem_map.1 hx
  rw [List.mem_range] at hj
  obtain ⟨u, hu⟩ := hc (j + 1) (by omega)
  have hlt : u < o.length := by
   refine Nat.lt_of_not_le fun hle => ?_
   unfold gZ at hu
   rw [List.getD_eq_getElem?_getD, List.getElem?_eq_none hle] at hu
   have hu : (0 : Int) = ((j + 1 : Nat) : Int) := hu
   omega
  unfold gZ at hu
  rw [List.getD_eq_getElem?_getD, List.getElem?_eq_getElem hlt] at hu
  rw [← hu]
  exact List.getElem_mem hlt
theorem LyP.le {E : List (Nat × Nat)} {m : Nat} {p : List Nat} {o : List Int} (h : LyP E m p o) (v : Nat) : gZ o v ≤ m :=
 low_le h.len h.low (fun v hv => by obtain ⟨u, _, _, e⟩ := h.down v hv; exact ⟨u, e⟩) v
end Go.Proofs.Ytoagikifehmlpaa
namespace Go.Proofs.Ytoagikifehmlpaa
open Go Go.Am
def zks (c : Int) (o : List Int) (w : Nat) : List Int := o.set w (gZ o w + c)
structure AddF (c : Int) (l : List Nat) (o o' : List Int) : Prop where
 len : o'.length = o.length
 at_ : ∀ v, gZ o' v = gZ o v + if v ∈ l then c else 0
theorem addF (c : Int) (o : List Int) : ∀ l : List Nat, l.Nodup → (∀ v ∈ l, v < o.length) → AddF c l o (l.foldl (zks c) o) := by
 intro l
 induction l using zfw with
 | h0 => exact fun _ _ => ⟨rfl, fun v => by show gZ o v = _; rw [if_neg List.not_mem_nil]; omega⟩
 | h1 l w ih =>
  intro hn hl
  have hw : w ∉ l := fun h => (List.nodup_append.1 hn).2.2 w h w (by simp) rfl
  obtain ⟨a, b⟩ := ih (List.nodup_append.1 hn).1 fun v hv => hl v (List.mem_append_left _ hv)
  rw [List.foldl_append, List.foldl_cons, List.foldl_nil]
  generalize l.foldl (zks c) o = o' at *
  have hlt : w < o'.length := by rw [a]; exact hl w (by simp)
  refine ⟨by unfold zks; rw [List.length_set]; exact a, fun v => ?_⟩
  unfold zks
  rw [zl8 hlt]
  by_cases e : w = v
  ·subst e
   rw [if_pos rfl, b, if_neg hw, if_pos (by simp)]
   omega
  ·rw [if_neg e, b]
   by_cases h : v ∈ l
   ·rw [if_pos h, if_pos (List.mem_append_left _ h)]
   ·rw [if_neg h, if_neg fun h2 => ?_]
    rcases List.mem_append.1 h2 with h2 | h2
    ·exact h h2
    ·exact e (List.mem_singleton.1 h2).symm
theorem zl4 {P Q : Nat → Bool} {v : Nat} (hPQ : ∀ u, u ≠ v → Q u = P u) (hQ : Q v = false) : ∀ {L : List Nat}, L.Nodup → v ∈ L → (L.filter Q).length + (if P v = true then 1 else 0) = (L.filter P).length
 | [], _, h => absurd h List.not_mem_nil
 | x :: L, hn, h => by
  obtain ⟨h1, h2⟩ := List.nodup_cons.1 hn
  by_cases e : x = v
  ·subst e
   have hs : L.filter Q = L.filter P := List.filter_congr fun u hu => hPQ u fun e => h1 (e ▸ hu)
   rw [List.filter_cons, List.filter_cons, if_neg (by rw [hQ]; exact Bool.false_ne_true), hs]
   by_cases c : P x = true
   ·rw [if_pos c, if_pos c, List.length_cons]
   ·rw [if_neg c, if_neg c]; rfl
  ·have ih := zl4 hPQ hQ (L := L) h2 ((List.mem_cons.1 h).resolve_left fun e2 => e e2.symm)
   rw [List.filter_cons, List.filter_cons, hPQ x e]
   by_cases c : P x = true
   ·rw [if_pos c, if_pos c, List.length_cons, List.length_cons]
    omega
   ·rw [if_neg c, if_neg c]
    exact ih
def cntO (E : List (Nat × Nat)) (m : Nat) (out : List Nat) (v : Nat) : Nat := ((List.range m).filter fun u => !(out.contains u) && E.contains (u, v)).length
theorem cntO_le (E : List (Nat × Nat)) (m : Nat) (out : List Nat) (v : Nat) : cntO E m out v ≤ m := Nat.le_trans (List.length_filter_le ..) (by rw [List.length_range]; exact Nat.le_refl _)
theorem zr7 {E : List (Nat × Nat)} {m x : Nat} {out : List Nat} (hx : x < m) (hxo : x ∉ out) (v : Nat) : cntO E m (out ++ [x]) v + (if (x, v) ∈ E then 1 else 0) = cntO E m out v := by
 unfold cntO
 have h := zl4 (P := fun u => !(out.contains u) && E.contains (u, v)) (Q := fun u => !((out ++ [x]).contains u) && E.contains (u, v)) (v := x) (fun u hu => ?_) ?_ (L := List.range m) List.nodup_range (List.mem_range.2 hx)
 ·rw [← h]
  congr 1
  by_cases c : (x, v) ∈ E
  ·rw [if_pos c, if_pos]
   have := List.contains_iff_mem.2 c
   simp only [this, Bool.and_true]
   simpa using hxo
  ·rw [if_neg c, if_neg]
   intro h
   rw [Bool.and_eq_true] at h
   exact c (List.contains_iff_mem.1 h.2)
 ·show (!((out ++ [x]).contains u) && E.contains (u, v)) = (!(out.contains u) && E.contains (u, v))
  congr 2
  rw [Bool.eq_iff_iff, List.contains_iff_mem, List.contains_iff_mem, List.mem_append]
  exact ⟨fun h => h.resolve_right fun h => hu (List.mem_singleton.1 h), fun h => .inl h⟩
 ·show (!((out ++ [x]).contains x) && E.contains (x, v)) = false
  rw [List.contains_iff_mem.2 (by simp : x ∈ out ++ [x])]
  rfl
theorem zl1 {E : List (Nat × Nat)} {m : Nat} (hb : ∀ u v, (u, v) ∈ E → u < m ∧ v < m) {out : List Nat} {v : Nat} : cntO E m out v = 0 ↔ ∀ u, (u, v) ∈ E → u ∈ out := by
 unfold cntO
 rw [List.length_eq_zero_iff, List.filter_eq_nil_iff]
 constructor
 ·intro h u hu
  have := h u (List.mem_range.2 (hb u v hu).1)
  rw [Bool.and_eq_true] at this
  refine Classical.byContradiction fun hc => this ⟨?_, List.contains_iff_mem.2 hu⟩
  simpa using hc
 ·intro h u _ hc
  rw [Bool.and_eq_true] at hc
  have := h u (List.contains_iff_mem.1 hc.2)
  have h2 := hc.1
  rw [List.contains_iff_mem.2 this] at h2
  cases h2
structure Opn (E : List (Nat × Nat)) (m : Nat) (out : List Nat) (op : List Int) : Prop where
 len : op.length = m
 cnt : ∀ v, v < m → v ∉ out → gZ op v = (cntO E m out v : Nat)
 gone : ∀ v, v ∈ out → gZ op v = -1
theorem Opn.rdy {E : List (Nat × Nat)} {m : Nat} {out : List Nat} {op : List Int} (hb : ∀ u v, (u, v) ∈ E → u < m ∧ v < m) (h : Opn E m out op) {v : Nat} (hv : v < m) : (gZ op v == 0) = rdyB E out v := by
 rw [Bool.eq_iff_iff, beq_iff_eq, zkd]
 by_cases c : v ∈ out
 ·rw [h.gone v c]
  exact ⟨fun h => absurd h (by decide), fun h => absurd c h.2⟩
 ·rw [h.cnt v hv c]
  constructor
  ·intro h0
   exact ⟨(zl1 hb).1 (by omega), c⟩
  ·intro h0
   rw [(zl1 hb).2 h0.1]
   rfl
theorem Opn.find {E : List (Nat × Nat)} {m : Nat} {out : List Nat} {op : List Int} (hb : ∀ u v, (u, v) ∈ E → u < m ∧ v < m) (h : Opn E m out op) : (List.range op.length).find? (fun i => gZ op i == 0) = nxS E m out := by
 unfold nxS
 rw [h.len]
 have : ∀ l : List Nat, (∀ x ∈ l, x < m) → l.find? (fun i => gZ op i == 0) = l.find? (rdyB E out) := by
  intro l
  induction l with
  | nil => exact fun _ => rfl
  | cons x l ih =>
   intro hl
   rw [List.find?_cons, List.find?_cons, h.rdy hb (hl x (List.mem_cons_self ..)), ih fun y hy => hl y (List.mem_cons_of_mem _ hy)]
 exact this _ fun x hx => List.mem_range.1 hx
theorem zi4 (E : List (Nat × Nat)) (m v : Nat) : (nbr E m v).Nodup := List.Pairwise.filter _ List.nodup_range
theorem Opn.step {E : List (Nat × Nat)} {m x : Nat} {out : List Nat} {op : List Int} (hb : ∀ u v, (u, v) ∈ E → u < m ∧ v < m) (ht : Top E m out) (h : Opn E m out op) (hx : nxS E m out = some x) : Opn E m (out ++ [x]) ((nbr E m x).foldl (zks (-1)) (op.set x (-1))) := by
 obtain ⟨hxm, hpre, hxo⟩ := zsl hx
 have hmem : ∀ w, w ∈ nbr E m x ↔ (x, w) ∈ E := fun w => zc9 fun u v h => (hb u v h).2
 have hxl : x < op.length := by rw [h.len]; exact hxm
 obtain ⟨a, b⟩ := addF (-1) (op.set x (-1)) (nbr E m x) (zi4 ..) fun v hv => by rw [List.length_set, h.len]; exact (hb _ _ ((hmem v).1 hv)).2
 rw [List.length_set] at a
 -- an edge leads to nothing that is out
 have hno : ∀ w, (x, w) ∈ E → w ∉ out ++ [x] := fun w hw hm => by
  have ht2 := ht.snoc hx
  obtain ⟨p, s, e⟩ := List.append_of_mem hm
  have hp := ht2.pre p w s e x hw
  rcases List.mem_append.1 hm with hm | hm
  ·obtain ⟨p2, s2, e2⟩ := List.append_of_mem hm
   exact hxo (by rw [e2]; exact List.mem_append_left _ (ht.pre p2 w s2 e2 x hw))
  ·obtain rfl := List.mem_singleton.1 hm
   exact hxo (hpre w hw)
 refine ⟨a.trans h.len, fun v hv hvo => ?_, fun v hv => ?_⟩
 ·rw [b, zl8 hxl, if_neg (fun e => hvo (by rw [e]; simp)), h.cnt v hv fun c => hvo (List.mem_append_left _ c)]
  have := zr7 (E := E) hxm hxo v
  by_cases c : (x, v) ∈ E
  ·rw [if_pos ((hmem v).2 c)]
   rw [if_pos c] at this
   omega
  ·rw [if_neg fun c2 => c ((hmem v).1 c2)]
   rw [if_neg c] at this
   omega
 ·rw [b, if_neg fun c => hno v ((hmem v).1 c) hv, zl8 hxl]
  rcases List.mem_append.1 hv with hv | hv
  ·rw [if_neg (fun e : x = v => hxo (by rw [e]; exact hv)), h.gone v hv]
   rfl
  ·rw [if_pos (List.mem_singleton.1 hv).symm]
   rfl
def cntI (E : List (Nat × Nat)) (i v : Nat) : Nat := ((List.range i).filter fun u => E.contains (u, v)).length
theorem zr6 (E : List (Nat × Nat)) (i v : Nat) : cntI E (i + 1) v = cntI E i v + if (i, v) ∈ E then 1 else 0 := by
 unfold cntI
 rw [List.range_succ, List.filter_append, List.length_append, List.filter_cons]
 congr 1
 by_cases c : (i, v) ∈ E
 ·rw [if_pos c, if_pos (List.contains_iff_mem.2 c)]
  rfl
 ·rw [if_neg c, if_neg fun h => c (List.contains_iff_mem.1 h)]
  rfl
theorem cntI_le (E : List (Nat × Nat)) (i v : Nat) : cntI E i v ≤ i := Nat.le_trans (List.length_filter_le ..) (by rw [List.length_range]; exact Nat.le_refl _)
theorem cntI_end (E : List (Nat × Nat)) (m v : Nat) : cntI E m v = cntO E m [] v := by
 unfold cntI cntO
 rfl
theorem Opn.start {E : List (Nat × Nat)} {m : Nat} {op : List Int} (hl : op.length = m) (h : ∀ v, v < m → gZ op v = (cntI E m v : Nat)) : Opn E m [] op :=
 ⟨hl, fun v hv _ => by rw [h v hv, cntI_end], fun v hv => absurd hv List.not_mem_nil⟩
theorem Wk.uncons {E : List (Nat × Nat)} : ∀ {k u w : Nat}, Wk E (k + 1) u w → ∃ x, (u, x) ∈ E ∧ Wk E k x w
 | 0, u, w, h => by
  cases h with
  | step h e => cases h with | refl => exact ⟨_, e, .refl _⟩
 | k + 1, u, w, h => by
  cases h with
  | step h e =>
   obtain ⟨x, hx, h2⟩ := Wk.uncons h
   exact ⟨x, hx, .step h2 e⟩
theorem zo7 {E : List (Nat × Nat)} {m f v : Nat} (hb : ∀ u v, (u, v) ∈ E → u < m ∧ v < m) (hf : f < m) : 0 ≤ gI (zcx E m f m) v ↔ ∃ k, Wk E k f v := by
 have L := zd4 (es := E) hf fun u v h => (hb u v h).2
 constructor
 ·intro h
  exact ⟨_, L.walk (gI (zcx E m f m) v).toNat v (by omega)⟩
 ·rintro ⟨k, w⟩
  exact (L.walk_le w rfl).1
def ldB (E : List (Nat × Nat)) (m v t : Nat) : Bool := E.any fun e => e.1 == v && decide (gI (zcx E m e.2 m) t ≥ 0)
theorem zsb {E : List (Nat × Nat)} {m v : Nat} (hb : ∀ u v, (u, v) ∈ E → u < m ∧ v < m) : ldB E m v v = true ↔ Cyc E v := by
 unfold ldB Cyc
 rw [List.any_eq_true]
 constructor
 ·rintro ⟨e, he, h⟩
  rw [Bool.and_eq_true, beq_iff_eq, decide_eq_true_eq] at h
  obtain ⟨h1, h2⟩ := h
  have he : (e.1, e.2) ∈ E := he
  obtain ⟨k, w⟩ := (zo7 hb (hb _ _ he).2).1 h2
  exact ⟨k, Wk.cons (h1 ▸ he) w⟩
 ·rintro ⟨k, w⟩
  obtain ⟨x, hx, w⟩ := w.uncons
  refine ⟨(v, x), hx, ?_⟩
  rw [Bool.and_eq_true, beq_iff_eq, decide_eq_true_eq]
  exact ⟨rfl, (zo7 hb (hb _ _ hx).2).2 ⟨k, w⟩⟩
def lpS (E : List (Nat × Nat)) (m : Nat) : Option Nat := (List.range m).find? fun v => ldB E m v v
theorem lp_srt {E : List (Nat × Nat)} {m : Nat} (hb : ∀ u v, (u, v) ∈ E → u < m ∧ v < m) : lpS E m = none ↔ ∃ l, zm1 E m m [] = some l := by
 constructor
 ·intro h
  cases hs : zm1 E m m [] with
  | some l => exact ⟨l, rfl⟩
  | none =>
   obtain ⟨w, hw, hc⟩ := srt_cyc hb hs
   exact absurd ((zsb hb).2 hc) (List.find?_eq_none.1 h w (List.mem_range.2 hw))
 ·rintro ⟨l, hl⟩
  obtain ⟨_, _, h⟩ := zow hl
  exact List.find?_eq_none.2 fun v hv hc => h v (List.mem_range.1 hv) ((zsb hb).1 hc)
end Go.Proofs.Ytoagikifehmlpaa
