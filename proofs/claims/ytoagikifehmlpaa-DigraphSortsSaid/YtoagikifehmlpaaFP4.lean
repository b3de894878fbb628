/-
  HOW MANY PREDECESSORS ARE NOT OUT, in plain Lean.
-/
import Derived.Test.YtoagikifehmlpaaFP3
namespace Go.Proofs.Ytoagikifehmlpaa
open Go Go.Am
def zkz (c : Int) (o : List Int) (w : Nat) : List Int := o.set w (gZ o w + c)
structure AddF (c : Int) (l : List Nat) (o o' : List Int) : Prop where
 len : o'.length = o.length
 at_ : ∀ v, gZ o' v = gZ o v + if v ∈ l then c else 0
theorem addF (c : Int) (o : List Int) : ∀ l : List Nat, l.Nodup → (∀ v ∈ l, v < o.length) → AddF c l o (l.foldl (zkz c) o) := by
 intro l
 induction l using zea with
 | h0 => exact fun _ _ => ⟨rfl, fun v => by show gZ o v = _; rw [if_neg List.not_mem_nil]; omega⟩
 | h1 l w ih =>
  intro hn hl
  have hw : w ∉ l := fun h => (List.nodup_append.1 hn).2.2 w h w (by simp) rfl
  obtain ⟨a, b⟩ := ih (List.nodup_append.1 hn).1 fun v hv => hl v (List.mem_append_left _ hv)
  rw [List.foldl_append, List.foldl_cons, List.foldl_nil]
  generalize l.foldl (zkz c) o = o' at *
  have hlt : w < o'.length := by rw [a]; exact hl w (by simp)
  refine ⟨by unfold zkz; rw [List.length_set]; exact a, fun v => ?_⟩
  unfold zkz
  rw [zlj hlt]
  by_cases e : w = v
  ·subst e
   rw [if_pos rfl, b, if_neg hw, if_pos (by simp)]
   omega
  ·rw [if_neg e, b]
   by_cases h : v ∈ l
   ·rw [if_pos h, if_pos (List.mem_append_left _ h)]
   ·rw [if_neg h, if_neg fun h2 => ?_]
    rcases List.mem_append.1 h2 with h2 | h2
    ·exact h h2
    ·exact e (List.mem_singleton.1 h2).symm
theorem zle {P Q : Nat → Bool} {v : Nat} (hPQ : ∀ u, u ≠ v → Q u = P u) (hQ : Q v = false) : ∀ {L : List Nat}, L.Nodup → v ∈ L → (L.filter Q).length + (if P v = true then 1 else 0) = (L.filter P).length
 | [], _, h => absurd h List.not_mem_nil
 | x :: L, hn, h => by
  obtain ⟨h1, h2⟩ := List.nodup_cons.1 hn
  by_cases e : x = v
  ·subst e
   have hs : L.filter Q = L.filter P := List.filter_congr fun u hu => hPQ u fun e => h1 (e ▸ hu)
   rw [List.filter_cons, List.filter_cons, if_neg (by rw [hQ]; exact Bool.false_ne_true), hs]
   by_cases c : P x = true
   ·rw [if_pos c, if_pos c, List.length_cons]
   ·rw [if_neg c, if_neg c]; rfl
  ·have ih := zle hPQ hQ (L := L) h2 ((List.mem_cons.1 h).resolve_left fun e2 => e e2.symm)
   rw [List.filter_cons, List.filter_cons, hPQ x e]
   by_cases c : P x = true
   ·rw [if_pos c, if_pos c, List.length_cons, List.length_cons]
    omega
   ·rw [if_neg c, if_neg c]
    exact ih
def cntO (E : List (Nat × Nat)) (m : Nat) (out : List Nat) (v : Nat) : Nat := ((List.range m).filter fun u => !(out.contains u) && E.contains (u, v)).length
theorem cntO_le (E : List (Nat × Nat)) (m : Nat) (out : List Nat) (v : Nat) : cntO E m out v ≤ m := Nat.le_trans (List.length_filter_le ..) (by rw [List.length_range]; exact Nat.le_refl _)
theorem zrg {E : List (Nat × Nat)} {m x : Nat} {out : List Nat} (hx : x < m) (hxo : x ∉ out) (v : Nat) : cntO E m (out ++ [x]) v + (if (x, v) ∈ E then 1 else 0) = cntO E m out v := by
 unfold cntO
 have h := zle (P := fun u => !(out.contains u) && E.contains (u, v)) (Q := fun u => !((out ++ [x]).contains u) && E.contains (u, v)) (v := x) (fun u hu => ?_) ?_ (L := List.range m) List.nodup_range (List.mem_range.2 hx)
 ·rw [← h]
  congr 1
  by_cases c : (x, v) ∈ E
  ·rw [if_pos c, if_pos]
   have := List.contains_iff_mem.2 c
   simp only [this, Bool.and_true]
   simpa using hxo
  ·rw [if_neg c, if_neg]
   intro h
   rw [Bool.and_eq_true] at h
   exact c (List.contains_iff_mem.1 h.2)
 ·show (!((out ++ [x]).contains u) && E.contains (u, v)) = (!(out.contains u) && E.contains (u, v))
  congr 2
  rw [Bool.eq_iff_iff, List.contains_iff_mem, List.contains_iff_mem, List.mem_append]
  exact ⟨fun h => h.resolve_right fun h => hu (List.mem_singleton.1 h), fun h => .inl h⟩
 ·show (!((out ++ [x]).contains x) && E.contains (x, v)) = false
  rw [List.contains_iff_mem.2 (by simp : x ∈ out ++ [x])]
  rfl
theorem zla {E : List (Nat × Nat)} {m : Nat} (hb : ∀ u v, (u, v) ∈ E → u < m ∧ v < m) {out : List Nat} {v : Nat} : cntO E m out v = 0 ↔ ∀ u, (u, v) ∈ E → u ∈ out := by
 unfold cntO
 rw [List.length_eq_zero_iff, List.filter_eq_nil_iff]
 constructor
 ·intro h u hu
  have := h u (List.mem_range.2 (hb u v hu).1)
  rw [Bool.and_eq_true] at this
  refine Classical.byContradiction fun hc => this ⟨?_, List.contains_iff_mem.2 hu⟩
  simpa using hc
 ·intro h u _ hc
  rw [Bool.and_eq_true] at hc
  have := h u (List.contains_iff_mem.1 hc.2)
  have h2 := hc.1
  rw [List.contains_iff_mem.2 this] at h2
  cases h2
structure Opn (E : List (Nat × Nat)) (m : Nat) (out : List Nat) (op : List Int) : Prop where
 len : op.length = m
 cnt : ∀ v, v < m → v ∉ out → gZ op v = (cntO E m out v : Nat)
 gone : ∀ v, v ∈ out → gZ op v = -1
theorem Opn.rdy {E : List (Nat × Nat)} {m : Nat} {out : List Nat} {op : List Int} (hb : ∀ u v, (u, v) ∈ E → u < m ∧ v < m) (h : Opn E m out op) {v : Nat} (hv : v < m) : (gZ op v == 0) = zov E out v := by
 rw [Bool.eq_iff_iff, beq_iff_eq, zf0]
 by_cases c : v ∈ out
 ·rw [h.gone v c]
  exact ⟨fun h => absurd h (by decide), fun h => absurd c h.2⟩
 ·rw [h.cnt v hv c]
  constructor
  ·intro h0
   exact ⟨(zla hb).1 (by omega), c⟩
  ·intro h0
   rw [(zla hb).2 h0.1]
   rfl
theorem Opn.find {E : List (Nat × Nat)} {m : Nat} {out : List Nat} {op : List Int} (hb : ∀ u v, (u, v) ∈ E → u < m ∧ v < m) (h : Opn E m out op) : (List.range op.length).find? (fun i => gZ op i == 0) = nxS E m out := by
 unfold nxS
 rw [h.len]
 have : ∀ l : List Nat, (∀ x ∈ l, x < m) → l.find? (fun i => gZ op i == 0) = l.find? (zov E out) := by
  intro l
  induction l with
  | nil => exact fun _ => rfl
  | cons x l ih =>
   intro hl
   rw [List.find?_cons, List.find?_cons, h.rdy hb (hl x (List.mem_cons_self ..)), ih fun y hy => hl y (List.mem_cons_of_mem _ hy)]
 exact this _ fun x hx => List.mem_range.1 hx
theorem zi3 (E : List (Nat × Nat)) (m v : Nat) : (nbr E m v).Nodup := List.Pairwise.filter _ List.nodup_range
theorem Opn.step {E : List (Nat × Nat)} {m x : Nat} {out : List Nat} {op : List Int} (hb : ∀ u v, (u, v) ∈ E → u < m ∧ v < m) (ht : Top E m out) (h : Opn E m out op) (hx : nxS E m out = some x) : Opn E m (out ++ [x]) ((nbr E m x).foldl (zkz (-1)) (op.set x (-1))) := by
 obtain ⟨hxm, hpre, hxo⟩ := zt0 hx
 have hmem : ∀ w, w ∈ nbr E m x ↔ (x, w) ∈ E := fun w => zc4 fun u v h => (hb u v h).2
 have hxl : x < op.length := by rw [h.len]; exact hxm
 obtain ⟨a, b⟩ := addF (-1) (op.set x (-1)) (nbr E m x) (zi3 ..) fun v hv => by rw [List.length_set, h.len]; exact (hb _ _ ((hmem v).1 hv)).2
 rw [List.length_set] at a
 -- an edge leads to nothing that is out
 have hno : ∀ w, (x, w) ∈ E → w ∉ out ++ [x] := fun w hw hm => by
  have ht2 := ht.snoc hx
  obtain ⟨p, s, e⟩ := List.append_of_mem hm
  have hp := ht2.pre p w s e x hw
  rcases List.mem_append.1 hm with hm | hm
  ·obtain ⟨p2, s2, e2⟩ := List.append_of_mem hm
   exact hxo (by rw [e2]; exact List.mem_append_left _ (ht.pre p2 w s2 e2 x hw))
  ·obtain rfl := List.mem_singleton.1 hm
   exact hxo (hpre w hw)
 refine ⟨a.trans h.len, fun v hv hvo => ?_, fun v hv => ?_⟩
 ·rw [b, zlj hxl, if_neg (fun e => hvo (by rw [e]; simp)), h.cnt v hv fun c => hvo (List.mem_append_left _ c)]
  have := zrg (E := E) hxm hxo v
  by_cases c : (x, v) ∈ E
  ·rw [if_pos ((hmem v).2 c)]
   rw [if_pos c] at this
   omega
  ·rw [if_neg fun c2 => c ((hmem v).1 c2)]
   rw [if_neg c] at this
   omega
 ·rw [b, if_neg fun c => hno v ((hmem v).1 c) hv, zlj hxl]
  rcases List.mem_append.1 hv with hv | hv
  ·rw [if_neg (fun e : x = v => hxo (by rw [e]; exact hv)), h.gone v hv]
   rfl
  ·rw [if_pos (List.mem_singleton.1 hv).symm]
   rfl
def cntI (E : List (Nat × Nat)) (i v : Nat) : Nat := ((List.range i).filter fun u => E.contains (u, v)).length
theorem zrf (E : List (Nat × Nat)) (i v : Nat) : cntI E (i + 1) v = cntI E i v + if (i, v) ∈ E then 1 else 0 := by
 unfold cntI
 rw [List.range_succ, List.filter_append, List.length_append, List.filter_cons]
 congr 1
 by_cases c : (i, v) ∈ E
 ·rw [if_pos c, if_pos (List.contains_iff_mem.2 c)]
  rfl
 ·rw [if_neg c, if_neg fun h => c (List.contains_iff_mem.1 h)]
  rfl
theorem cntI_le (E : List (Nat × Nat)) (i v : Nat) : cntI E i v ≤ i := Nat.le_trans (List.length_filter_le ..) (by rw [List.length_range]; exact Nat.le_refl _)
theorem cntI_end (E : List (Nat × Nat)) (m v : Nat) : cntI E m v = cntO E m [] v := by
 unfold cntI cntO
 rfl
theorem Opn.start {E : List (Nat × Nat)} {m : Nat} {op : List Int} (hl : op.length = m) (h : ∀ v, v < m → gZ op v = (cntI E m v : Nat)) : Opn E m [] op :=
 ⟨hl, fun v hv _ => by rw [h v hv, cntI_end], fun v hv => absurd hv List.not_mem_nil⟩
theorem Wk.uncons {E : List (Nat × Nat)} : ∀ {k u w : Nat}, Wk E (k + 1) u w → ∃ x, (u, x) ∈ E ∧ Wk E k x w
 | 0, u, w, h => by
  cases h with
  | step h e => cases h with | refl => exact ⟨_, e, .refl _⟩
 | k + 1, u, w, h => by
  cases h with
  | step h e =>
   obtain ⟨x, hx, h2⟩ := Wk.uncons h
   exact ⟨x, hx, .step h2 e⟩
theorem zob {E : List (Nat × Nat)} {m f v : Nat} (hb : ∀ u v, (u, v) ∈ E → u < m ∧ v < m) (hf : f < m) : 0 ≤ gI (zcj E m f m) v ↔ ∃ k, Wk E k f v := by
 have L := zdz (es := E) hf fun u v h => (hb u v h).2
 constructor
 ·intro h
  exact ⟨_, L.walk (gI (zcj E m f m) v).toNat v (by omega)⟩
 ·rintro ⟨k, w⟩
  exact (L.walk_le w rfl).1
def ldB (E : List (Nat × Nat)) (m v t : Nat) : Bool := E.any fun e => e.1 == v && decide (gI (zcj E m e.2 m) t ≥ 0)
theorem zso {E : List (Nat × Nat)} {m v : Nat} (hb : ∀ u v, (u, v) ∈ E → u < m ∧ v < m) : ldB E m v v = true ↔ Cyc E v := by
 unfold ldB Cyc
 rw [List.any_eq_true]
 constructor
 ·rintro ⟨e, he, h⟩
  rw [Bool.and_eq_true, beq_iff_eq, decide_eq_true_eq] at h
  obtain ⟨h1, h2⟩ := h
  have he : (e.1, e.2) ∈ E := he
  obtain ⟨k, w⟩ := (zob hb (hb _ _ he).2).1 h2
  exact ⟨k, Wk.cons (h1 ▸ he) w⟩
 ·rintro ⟨k, w⟩
  obtain ⟨x, hx, w⟩ := w.uncons
  refine ⟨(v, x), hx, ?_⟩
  rw [Bool.and_eq_true, beq_iff_eq, decide_eq_true_eq]
  exact ⟨rfl, (zob hb (hb _ _ hx).2).2 ⟨k, w⟩⟩
def lpS (E : List (Nat × Nat)) (m : Nat) : Option Nat := (List.range m).find? fun v => ldB E m v v
theorem lp_srt {E : List (Nat × Nat)} {m : Nat} (hb : ∀ u v, (u, v) ∈ E → u < m ∧ v < m) : lpS E m = none ↔ ∃ l, zgr E m m [] = some l := by
 constructor
 ·intro h
  cases hs : zgr E m m [] with
  | some l => exact ⟨l, rfl⟩
  | none =>
   obtain ⟨w, hw, hc⟩ := srt_cyc hb hs
   exact absurd ((zso hb).2 hc) (List.find?_eq_none.1 h w (List.mem_range.2 hw))
 ·rintro ⟨l, hl⟩
  obtain ⟨_, _, h⟩ := zh4 hl
  exact List.find?_eq_none.2 fun v hv hc => h v (List.mem_range.1 hv) ((zso hb).1 hc)
end Go.Proofs.Ytoagikifehmlpaa
