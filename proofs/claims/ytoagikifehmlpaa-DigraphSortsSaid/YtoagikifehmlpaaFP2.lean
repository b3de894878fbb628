/-
  ORDERS IN PLAIN LEAN: the least vertex whose predecessors are all out; no order exactly if there is a cycle; layers.
-/
import Derived.Test.YtoagikifehmlpaaFP1
namespace Go.Proofs.Ytoagikifehmlpaa
open Go Go.Am
def zov (E : List (Nat × Nat)) (out : List Nat) (v : Nat) : Bool := E.all (fun e => !(e.2 == v) || out.contains e.1) && !(out.contains v)
theorem zf0 {E : List (Nat × Nat)} {out : List Nat} {v : Nat} : zov E out v = true ↔ (∀ u, (u, v) ∈ E → u ∈ out) ∧ v ∉ out := by
 unfold zov
 rw [Bool.and_eq_true, List.all_eq_true]
 constructor
 ·rintro ⟨h1, h2⟩
  refine ⟨fun u hu => ?_, fun hv => ?_⟩
  ·have := h1 _ hu
   simpa using this
  ·have := List.contains_iff_mem.2 hv
   rw [this] at h2
   cases h2
 ·rintro ⟨h1, h2⟩
  refine ⟨fun e he => ?_, ?_⟩
  ·by_cases c : e.2 = v
   ·subst c
    have := h1 e.1 he
    simp [this]
   ·simp [c]
  ·simp [h2]
def nxS (E : List (Nat × Nat)) (m : Nat) (out : List Nat) : Option Nat := (List.range m).find? (zov E out)
def zgr (E : List (Nat × Nat)) (m : Nat) : Nat → List Nat → Option (List Nat)
 | 0, out => some out
 | k + 1, out => match nxS E m out with
  | some v => zgr E m k (out ++ [v])
  | none => none
structure Top (E : List (Nat × Nat)) (m : Nat) (out : List Nat) : Prop where
 nd : out.Nodup
 lt : ∀ v ∈ out, v < m
 pre : ∀ p v s, out = p ++ v :: s → ∀ u, (u, v) ∈ E → u ∈ p
theorem Top.nil (E : List (Nat × Nat)) (m : Nat) : Top E m [] := ⟨List.nodup_nil, fun v h => absurd h List.not_mem_nil, fun p v s h => by simp at h⟩
theorem zt0 {E : List (Nat × Nat)} {m v : Nat} {out : List Nat} (h : nxS E m out = some v) : v < m ∧ (∀ u, (u, v) ∈ E → u ∈ out) ∧ v ∉ out := by
 unfold nxS at h
 exact ⟨List.mem_range.1 (List.mem_of_find?_eq_some h), zf0.1 (List.find?_some h)⟩
theorem zpv {out : List Nat} {v : Nat} (h : out.Nodup) (hv : v ∉ out) : (out ++ [v]).Nodup := by
 rw [List.nodup_append]
 refine ⟨h, List.nodup_cons.2 ⟨List.not_mem_nil, List.nodup_nil⟩, fun a ha b hb => ?_⟩
 obtain rfl := List.mem_singleton.1 hb
 exact fun e => hv (e ▸ ha)
theorem Top.snoc {E : List (Nat × Nat)} {m v : Nat} {out : List Nat} (h : Top E m out) (hv : nxS E m out = some v) : Top E m (out ++ [v]) := by
 obtain ⟨a, b, c⟩ := zt0 hv
 refine ⟨zpv h.nd c, fun w hw => ?_, fun p w s e u hu => ?_⟩
 ·rcases List.mem_append.1 hw with hw | hw
  ·exact h.lt w hw
  ·obtain rfl := List.mem_singleton.1 hw
   exact a
 ·rcases List.append_eq_append_iff.1 e with ⟨xs, e1, e2⟩ | ⟨cs, e1, e2⟩
  ·-- p = out ++ xs, [v] = xs ++ w :: s
   cases xs with
   | nil =>
    rw [List.nil_append] at e2
    injection e2 with e3 e4
    subst e3
    rw [e1, List.append_nil]
    exact b u hu
   | cons x xs =>
    rw [List.cons_append] at e2
    injection e2 with e3 e4
    simp at e4
  ·-- out = p ++ cs, w :: s = cs ++ [v]
   cases cs with
   | nil =>
    rw [List.nil_append] at e2
    injection e2 with e3 e4
    subst e3
    rw [List.append_nil] at e1
    rw [← e1]
    exact b u hu
   | cons x cs =>
    rw [List.cons_append] at e2
    injection e2 with e3 e4
    subst e3
    exact h.pre p w cs e1 u hu
theorem zp5 {E : List (Nat × Nat)} {m : Nat} : ∀ {k : Nat} {out l : List Nat}, Top E m out → zgr E m k out = some l → Top E m l ∧ l.length = out.length + k
 | 0, out, l, h, e => by
  injection e with e
  subst e
  exact ⟨h, rfl⟩
 | k + 1, out, l, h, e => by
  rw [zgr] at e
  split at e
  ·rename_i v hv
   obtain ⟨a, b⟩ := zp5 (h.snoc hv) e
   refine ⟨a, ?_⟩
   rw [b, List.length_append, List.length_singleton]
   omega
  ·cases e
theorem zm7 {E : List (Nat × Nat)} {m : Nat} : ∀ {k : Nat} {out : List Nat}, Top E m out → out.length + k ≤ m → zgr E m k out = none → ∃ out', Top E m out' ∧ out'.length < m ∧ nxS E m out' = none
 | 0, out, h, _, e => by cases e
 | k + 1, out, h, hl, e => by
  rw [zgr] at e
  split at e
  ·rename_i v hv
   exact zm7 (h.snoc hv) (by rw [List.length_append, List.length_singleton]; omega) e
  ·rename_i hv
   exact ⟨out, h, by omega, hv⟩
theorem ze7 : ∀ {a b : List Nat}, a.Nodup → (∀ x ∈ a, x ∈ b) → a.length ≤ b.length
 | [], _, _, _ => Nat.zero_le _
 | x :: a, b, hn, hs => by
  obtain ⟨h1, h2⟩ := List.nodup_cons.1 hn
  have hx := hs x (List.mem_cons_self ..)
  have := ze7 (a := a) (b := b.erase x) h2 fun y hy => (List.mem_erase_of_ne (fun e => h1 (by rw [← e]; exact hy))).2 (hs y (List.mem_cons_of_mem _ hy))
  rw [List.length_erase_of_mem hx] at this
  have := List.length_pos_of_mem hx
  rw [List.length_cons]
  omega
theorem zqr {m : Nat} {l : List Nat} (nd : l.Nodup) (lt : ∀ v ∈ l, v < m) (hl : m ≤ l.length) : ∀ v, v < m → v ∈ l := by
 intro v hv
 by_cases c : v ∈ l
 ·exact c
 ·have := ze7 (a := v :: l) (b := List.range m) (List.nodup_cons.2 ⟨c, nd⟩) fun x hx => by
   rw [List.mem_range]
   rcases List.mem_cons.1 hx with rfl | hx
   ·exact hv
   ·exact lt x hx
  rw [List.length_cons, List.length_range] at this
  omega
theorem some_out {m : Nat} {l : List Nat} (hl : l.length < m) : ∃ v, v < m ∧ v ∉ l := by
 refine Classical.byContradiction fun h => ?_
 have := ze7 (a := List.range m) (b := l) List.nodup_range fun x hx => by
  refine Classical.byContradiction fun c => h ⟨x, List.mem_range.1 hx, c⟩
 rw [List.length_range] at this
 omega
def Cyc (E : List (Nat × Nat)) (v : Nat) : Prop := ∃ k, Wk E (k + 1) v v
theorem Wk.trans {E : List (Nat × Nat)} {a b c j k : Nat} (h : Wk E j a b) (h2 : Wk E k b c) : Wk E (j + k) a c := by
 induction h2 with
 | refl => exact h
 | step h2 e ih => exact .step (ih h) e
def bk (f : Nat → Nat) : Nat → Nat → Nat
 | 0, v => v
 | k + 1, v => f (bk f k v)
theorem zjg {E : List (Nat × Nat)} {R : Nat → Prop} {f : Nat → Nat} (hf : ∀ v, R v → R (f v) ∧ (f v, v) ∈ E) {v : Nat} (hv : R v) : ∀ k, R (bk f k v)
 | 0 => hv
 | k + 1 => (hf _ (zjg hf hv k)).1
theorem bk_wk {E : List (Nat × Nat)} {R : Nat → Prop} {f : Nat → Nat} (hf : ∀ v, R v → R (f v) ∧ (f v, v) ∈ E) {v : Nat} (hv : R v) (i : Nat) : ∀ j, Wk E j (bk f (i + j) v) (bk f i v)
 | 0 => .refl _
 | j + 1 => Wk.cons (hf _ (zjg hf hv (i + j))).2 (bk_wk hf hv i j)
theorem cyc_of {E : List (Nat × Nat)} {m : Nat} {R : Nat → Prop} (hR : ∀ v, R v → v < m) (hp : ∀ v, R v → ∃ u, R u ∧ (u, v) ∈ E) {v : Nat} (hv : R v) : ∃ w, R w ∧ Cyc E w := by
 have hf : ∃ f : Nat → Nat, ∀ v, R v → R (f v) ∧ (f v, v) ∈ E := by
  have hc : ∀ v, ∃ u, R v → R u ∧ (u, v) ∈ E := fun v => by
   by_cases c : R v
   ·obtain ⟨u, h⟩ := hp v c
    exact ⟨u, fun _ => h⟩
   ·exact ⟨0, fun h => absurd h c⟩
  exact ⟨fun v => Classical.choose (hc v), fun v h => Classical.choose_spec (hc v) h⟩
 obtain ⟨f, hf⟩ := hf
 -- two of m + 1 are the same
 have hd : ¬ ((List.range (m + 1)).map fun k => bk f k v).Nodup := fun nd => by
  have := ze7 (b := List.range m) nd fun x hx => by
   obtain ⟨k, _, rfl⟩ := List.mem_map.1 hx
   exact List.mem_range.2 (hR _ (zjg hf hv k))
  rw [List.length_map, List.length_range, List.length_range] at this
  omega
 have hex : ∃ i j, i < j ∧ bk f i v = bk f j v := by
  refine Classical.byContradiction fun h => hd ?_
  refine List.pairwise_map.2 (List.pairwise_lt_range.imp fun {a b} hab e => h ⟨a, b, hab, e⟩)
 obtain ⟨i, j, hij, e⟩ := hex
 have w := bk_wk hf hv i (j - i)
 rw [show i + (j - i) = j by omega, ← e] at w
 exact ⟨bk f i v, zjg hf hv i, j - i - 1, by rw [show j - i - 1 + 1 = j - i by omega]; exact w⟩
theorem srt_cyc {E : List (Nat × Nat)} {m : Nat} (hb : ∀ u v, (u, v) ∈ E → u < m ∧ v < m) (h : zgr E m m [] = none) : ∃ w, w < m ∧ Cyc E w := by
 obtain ⟨out, ht, hl, hn⟩ := zm7 (Top.nil E m) (Nat.le_of_eq (Nat.zero_add m)) h
 obtain ⟨v, hv, hvo⟩ := some_out hl
 obtain ⟨w, h1, h2⟩ := cyc_of (E := E) (m := m) (R := fun v => v < m ∧ v ∉ out) (fun v h => h.1) (fun v ⟨h1, h2⟩ => by
  unfold nxS at hn
  have h3 := List.find?_eq_none.1 hn v (List.mem_range.2 h1)
  refine Classical.byContradiction fun hx => h3 (zf0.2 ⟨fun u hu => ?_, h2⟩)
  exact Classical.byContradiction fun hc => hx ⟨u, ⟨(hb u v hu).1, hc⟩, hu⟩) ⟨hv, hvo⟩
 exact ⟨w, h1.1, h2⟩
theorem zsg {l : List Nat} {v : Nat} (h : v ∈ l) : ∃ p s, l = p ++ v :: s ∧ v ∉ p ∧ l.idxOf v = p.length := by
 induction l with
 | nil => exact absurd h List.not_mem_nil
 | cons x l ih =>
  by_cases c : x = v
  ·subst c
   exact ⟨[], l, rfl, List.not_mem_nil, by rw [List.idxOf_cons_self]; rfl⟩
  ·rcases List.mem_cons.1 h with h | h
   ·exact absurd h.symm c
   ·obtain ⟨p, s, e, hn, hi⟩ := ih h
    refine ⟨x :: p, s, by rw [e]; rfl, fun hm => ?_, ?_⟩
    ·rcases List.mem_cons.1 hm with hm | hm
     ·exact c hm.symm
     ·exact hn hm
    ·rw [List.idxOf_cons, show (x == v) = false from beq_eq_false_iff_ne.2 c, hi]
     rfl
theorem Top.edge {E : List (Nat × Nat)} {m : Nat} {l : List Nat} (h : Top E m l) {u v : Nat} (he : (u, v) ∈ E) (hv : v ∈ l) : u ∈ l ∧ l.idxOf u < l.idxOf v := by
 obtain ⟨p, s, e, hn, hi⟩ := zsg hv
 have hu := h.pre p v s e u he
 refine ⟨by rw [e]; exact List.mem_append_left _ hu, ?_⟩
 rw [hi, e, List.idxOf_append, if_pos hu]
 exact List.idxOf_lt_length_iff.2 hu
theorem Top.walk {E : List (Nat × Nat)} {m : Nat} {l : List Nat} (h : Top E m l) {k u v : Nat} (w : Wk E k u v) : v ∈ l → u ∈ l ∧ l.idxOf u + k ≤ l.idxOf v := by
 induction w with
 | refl => exact fun h => ⟨h, Nat.le_refl _⟩
 | step w e ih =>
  intro hv
  obtain ⟨a, b⟩ := h.edge e hv
  obtain ⟨c, d⟩ := ih a
  exact ⟨c, by omega⟩
theorem zh4 {E : List (Nat × Nat)} {m : Nat} {l : List Nat} (h : zgr E m m [] = some l) : Top E m l ∧ l.length = m ∧ ∀ v, v < m → ¬ Cyc E v := by
 obtain ⟨a, b⟩ := zp5 (Top.nil E m) h
 have b : l.length = m := by rw [b]; exact Nat.zero_add m
 refine ⟨a, b, fun v hv ⟨k, w⟩ => ?_⟩
 have := a.walk w (zqr a.nd a.lt (by omega) v hv)
 omega
end Go.Proofs.Ytoagikifehmlpaa
