/-
  WHAT THE SEARCH FINDS: the lengths of the shortest ways; and what the reference's rounds find is the same.
-/
import Derived.Test.YtoiblgbaeglgoaaYH10
namespace Go.Proofs.Ytoiblgbaeglgoaa
open Go Go.Am

theorem way_sw_all : ∀ e ∈ allE, ∀ i ∈ [0, 1, 2, 3], i < e.length → sw (wayE (flipE e i) i) = sw (wayE e i) ∧ flipE (flipE e i) i = e := by decide +kernel

theorem i4 {i n : Nat} (hi : i < n) (h4 : n ≤ 4) : i ∈ [0, 1, 2, 3] := by
  rcases (show i = 0 ∨ i = 1 ∨ i = 2 ∨ i = 3 by omega) with rfl | rfl | rfl | rfl <;> simp

theorem flip_flip {e : List Bool} (h1 : 1 ≤ e.length) (h4 : e.length ≤ 4) {i : Nat} (hi : i < e.length) : flipE (flipE e i) i = e := (way_sw_all e (allE_mem e h1 h4) i (i4 hi h4) hi).2

theorem may_flip (l : List Ex) {e : List Bool} (h1 : 1 ≤ e.length) (h4 : e.length ≤ 4) {i : Nat} (hi : i < e.length) : mayB l (flipE e i) i = mayB l e i := by
  obtain ⟨a, b⟩ := way_sw_all e (allE_mem e h1 h4) i (i4 hi h4) hi
  have hw : freeB l (wayE (flipE e i) i) = freeB l (wayE e i) := by
    unfold freeB trues
    rw [a]
  unfold mayB
  rw [b, hw, Bool.and_comm (freeB l (posE (flipE e i)))]

section
variable {l : List Ex} {n : Nat} (h1 : 1 ≤ n) (h4 : n ≤ 4)
include h1 h4

theorem nxt_nxt {k i : Nat} (hk : k < 2 ^ n) (hi : i < n) : nxt n (nxt n k i) i = k := by
  have hl := bitsE_len n k
  show idxE (flipE (bitsE n (nxt n k i)) i) = k
  rw [bits_nxt h1 h4, flip_flip (by rw [hl]; exact h1) (by rw [hl]; exact h4) (by rw [hl]; exact hi), idx_bits h1 h4 hk]

theorem mv_back {k i : Nat} (hi : i ∈ mv l n k) : i ∈ mv l n (nxt n k i) := by
  have hl := bitsE_len n k
  obtain ⟨a, b⟩ := List.mem_filter.1 hi
  refine List.mem_filter.2 ⟨a, ?_⟩
  have hin := List.mem_range.1 a
  rw [bits_nxt h1 h4]
  have := may_flip l (e := bitsE n k) (by rw [hl]; exact h1) (by rw [hl]; exact h4) (i := i) (by rw [hl]; exact hin)
  exact this.trans b

end

structure LevW (l : List Ex) (n : Nat) (D : List Int) : Prop where
  len : D.length = 2 ^ n
  lo : ∀ k, k < 2 ^ n → -1 ≤ D.getD k 0
  hi : ∀ k, k < 2 ^ n → D.getD k 0 < ((2 ^ n : Nat) : Int)
  zer : ∀ k, k < 2 ^ n → D.getD k 0 = 0 → k = 0
  pred : ∀ z, z < 2 ^ n → 0 < D.getD z 0 → ∃ y, y < 2 ^ n ∧ ∃ i ∈ mv l n y, nxt n y i = z ∧ D.getD y 0 + 1 = D.getD z 0
  step : ∀ y, y < 2 ^ n → 0 ≤ D.getD y 0 → ∀ i ∈ mv l n y, 0 ≤ D.getD (nxt n y i) 0 ∧ D.getD (nxt n y i) 0 ≤ D.getD y 0 + 1

structure BQ (l : List Ex) (n : Nat) (s : List Int × List Nat) : Prop where
  bi : BI n s
  zero : s.1.getD 0 0 = 0
  zer : ∀ k, k < 2 ^ n → s.1.getD k 0 = 0 → k = 0
  pred : ∀ z, z < 2 ^ n → 0 < s.1.getD z 0 → ∃ y, y < 2 ^ n ∧ ∃ i ∈ mv l n y, nxt n y i = z ∧ s.1.getD y 0 + 1 = s.1.getD z 0
  fin : ∀ p, p < 2 ^ n → 0 ≤ s.1.getD p 0 → p ∉ s.2 → ∀ i ∈ mv l n p, 0 ≤ s.1.getD (nxt n p i) 0 ∧ s.1.getD (nxt n p i) 0 ≤ s.1.getD p 0 + 1
  top : ∀ v, v < 2 ^ n → ∀ x ∈ s.2, s.1.getD v 0 ≤ s.1.getD x 0 + 1
  srt : s.2.Pairwise fun x y => s.1.getD x 0 ≤ s.1.getD y 0

structure BJ (l : List Ex) (n k : Nat) (done : List Nat) (s : List Int × List Nat) : Prop where
  bi : BI n s
  zero : s.1.getD 0 0 = 0
  zer : ∀ k, k < 2 ^ n → s.1.getD k 0 = 0 → k = 0
  pred : ∀ z, z < 2 ^ n → 0 < s.1.getD z 0 → ∃ y, y < 2 ^ n ∧ ∃ i ∈ mv l n y, nxt n y i = z ∧ s.1.getD y 0 + 1 = s.1.getD z 0
  fin : ∀ p, p < 2 ^ n → 0 ≤ s.1.getD p 0 → p ∉ s.2 → p ≠ k → ∀ i ∈ mv l n p, 0 ≤ s.1.getD (nxt n p i) 0 ∧ s.1.getD (nxt n p i) 0 ≤ s.1.getD p 0 + 1
  cur : ∀ i ∈ done, 0 ≤ s.1.getD (nxt n k i) 0 ∧ s.1.getD (nxt n k i) 0 ≤ s.1.getD k 0 + 1
  k0 : 0 ≤ s.1.getD k 0
  top : ∀ v, v < 2 ^ n → s.1.getD v 0 ≤ s.1.getD k 0 + 1
  low : ∀ x ∈ s.2, s.1.getD k 0 ≤ s.1.getD x 0
  srt : s.2.Pairwise fun x y => s.1.getD x 0 ≤ s.1.getD y 0

section
variable {l : List Ex} {n : Nat} (h1 : 1 ≤ n) (h4 : n ≤ 4)
include h1 h4

theorem push_BJ {k i : Nat} {done : List Nat} {s : List Int × List Nat} (hk : k < 2 ^ n) (hi : i ∈ mv l n k) (h : BJ l n k done s) (hm : s.2.length + negs s.1 ≤ 2 ^ n) : BJ l n k (i :: done) (push n k s i) := by
  have hbi := (push_BI (i := i) h1 h4 hk h.bi h.k0 hm).1
  have hy := nxt_lt (k := k) (i := i) h1 h4
  obtain ⟨out, q⟩ := s
  have hlen : out.length = 2 ^ n := h.bi.len
  have hbq := h.bi.q
  have hN := Nat.two_pow_pos n
  obtain ⟨_, zero, zer, pred, fin, cur, k0, top, low, srt⟩ := h
  simp only at zero zer pred fin cur k0 top low srt
  have hqn : ∀ x ∈ q, 0 ≤ out.getD x 0 := fun x hx => (hbq x hx).2
  unfold push at hbi ⊢
  simp only at hbi ⊢
  by_cases hneg : out.getD (nxt n k i) 0 < 0
  · rw [if_pos hneg] at hbi ⊢
    have G : ∀ z, (out.set (nxt n k i) (out.getD k 0 + 1)).getD z 0 = if nxt n k i = z then out.getD k 0 + 1 else out.getD z 0 := fun z => getD_set_int (by omega)
    have ne : ∀ {z}, 0 ≤ out.getD z 0 → nxt n k i ≠ z := fun hz e => by rw [e] at hneg; omega
    have Gs : ∀ {z}, 0 ≤ out.getD z 0 → (out.set (nxt n k i) (out.getD k 0 + 1)).getD z 0 = out.getD z 0 := fun hz => by rw [G, if_neg (ne hz)]
    have Gy : (out.set (nxt n k i) (out.getD k 0 + 1)).getD (nxt n k i) 0 = out.getD k 0 + 1 := by rw [G, if_pos rfl]
    refine ⟨hbi, ?_, fun z hz e => ?_, fun z hz hp => ?_, fun p hp hp0 hpq hpk j hj => ?_, fun j hj => ?_, ?_, fun v hv => ?_, fun x hx => ?_, ?_⟩
    · show (out.set _ _).getD 0 0 = 0
      rw [Gs (by omega)]; exact zero
    · have e : (out.set _ _).getD z 0 = 0 := e
      rw [G] at e
      split at e
      · omega
      · exact zer z hz e
    · have hp : 0 < (out.set _ _).getD z 0 := hp
      show ∃ y, y < 2 ^ n ∧ ∃ i' ∈ mv l n y, nxt n y i' = z ∧ (out.set _ _).getD y 0 + 1 = (out.set _ _).getD z 0
      by_cases e : nxt n k i = z
      · subst e
        exact ⟨k, hk, i, hi, rfl, by rw [Gs k0, Gy]⟩
      · rw [G, if_neg e] at hp
        obtain ⟨y, hy2, j, hj, e1, e2⟩ := pred z hz hp
        refine ⟨y, hy2, j, hj, e1, ?_⟩
        rw [Gs (z := y) (by omega), G, if_neg e]
        exact e2
    · have hp0 : 0 ≤ (out.set _ _).getD p 0 := hp0
      have hpq : p ∉ q ++ [nxt n k i] := hpq
      have hpy : nxt n k i ≠ p := fun e => hpq (by rw [e]; simp)
      rw [G, if_neg hpy] at hp0
      obtain ⟨a, b⟩ := fin p hp hp0 (fun hh => hpq (List.mem_append_left _ hh)) hpk j hj
      show 0 ≤ (out.set _ _).getD _ 0 ∧ (out.set _ _).getD _ 0 ≤ (out.set _ _).getD p 0 + 1
      rw [Gs a, Gs hp0]
      exact ⟨a, b⟩
    · show 0 ≤ (out.set _ _).getD _ 0 ∧ (out.set _ _).getD _ 0 ≤ (out.set _ _).getD k 0 + 1
      rcases List.mem_cons.1 hj with rfl | hj
      · rw [Gy, Gs k0]; omega
      · obtain ⟨a, b⟩ := cur j hj
        rw [Gs a, Gs k0]
        exact ⟨a, b⟩
    · show 0 ≤ (out.set _ _).getD k 0
      rw [Gs k0]; exact k0
    · show (out.set _ _).getD v 0 ≤ (out.set _ _).getD k 0 + 1
      rw [Gs k0, G]
      split
      · exact Int.le_refl _
      · exact top v hv
    · show (out.set _ _).getD k 0 ≤ (out.set _ _).getD x 0
      have hx : x ∈ q ++ [nxt n k i] := hx
      rcases List.mem_append.1 hx with hx | hx
      · rw [Gs k0, Gs (hqn x hx)]; exact low x hx
      · obtain rfl := List.mem_singleton.1 hx
        rw [Gs k0, Gy]; omega
    · show (q ++ [nxt n k i]).Pairwise fun x y => (out.set (nxt n k i) (out.getD k 0 + 1)).getD x 0 ≤ (out.set (nxt n k i) (out.getD k 0 + 1)).getD y 0
      rw [List.pairwise_append]
      refine ⟨srt.imp_of_mem fun ha hb hab => by rw [Gs (hqn _ ha), Gs (hqn _ hb)]; exact hab, List.pairwise_singleton .., fun a ha b hb => ?_⟩
      obtain rfl := List.mem_singleton.1 hb
      rw [Gs (hqn a ha), Gy]
      exact top a (hbq a ha).1
  · rw [if_neg hneg] at hbi ⊢
    refine ⟨hbi, zero, zer, pred, fin, fun j hj => ?_, k0, top, low, srt⟩
    rcases List.mem_cons.1 hj with rfl | hj
    · exact ⟨by show 0 ≤ out.getD _ 0; omega, top _ hy⟩
    · exact cur j hj

theorem visit_BJ {k : Nat} (hk : k < 2 ^ n) : ∀ (ms : List Nat) (done : List Nat) (s : List Int × List Nat), (∀ i ∈ ms, i ∈ mv l n k) → BJ l n k done s → s.2.length + negs s.1 ≤ 2 ^ n → BJ l n k (ms.reverse ++ done) (ms.foldl (push n k) s)
  | [], done, s, _, h, _ => h
  | i :: ms, done, s, hi, h, hm => by
    have hp := push_BJ h1 h4 hk (hi i (List.mem_cons_self ..)) h hm
    have hb := push_BI (i := i) h1 h4 hk h.bi h.k0 hm
    have := visit_BJ hk ms (i :: done) _ (fun j hj => hi j (List.mem_cons_of_mem _ hj)) hp (by rw [hb.2.2]; exact hm)
    rw [List.reverse_cons, List.append_assoc]
    exact this

theorem bfs_lev : ∀ (f : Nat) (s : List Int × List Nat), BQ l n s → s.2.length + negs s.1 ≤ 2 ^ n → s.2.length + negs s.1 < f → LevW l n (bfs l n f s) ∧ (bfs l n f s).getD 0 0 = 0
  | 0, s, _, _, hf => absurd hf (Nat.not_lt_zero _)
  | f + 1, (out, []), h, _, _ => by
    refine ⟨⟨h.bi.len, fun k hk => ?_, fun k hk => ?_, h.zer, h.pred, fun y hy hy0 i hi => h.fin y hy hy0 List.not_mem_nil i hi⟩, h.zero⟩
    · exact h.bi.lo _ (getD_mem (by have : out.length = 2 ^ n := h.bi.len; show k < out.length; omega))
    · have := h.bi.hi _ (getD_mem (y := k) (by have : out.length = 2 ^ n := h.bi.len; show k < out.length; omega))
      show out.getD k 0 < _
      have : out.getD k 0 + negs out + 1 ≤ ((2 ^ n : Nat) : Int) := this
      omega
  | f + 1, (out, k :: q), h, hm, hf => by
    obtain ⟨hBp, hk, hk0⟩ := BI_pop h.bi
    simp only [List.length_cons] at hm hf
    have hsrt := List.pairwise_cons.1 h.srt
    have hJ : BJ l n k [] (out, q) := ⟨hBp, h.zero, h.zer, h.pred, fun p hp hp0 hpq hpk j hj => h.fin p hp hp0 (fun hh => (List.mem_cons.1 hh).elim hpk hpq) j hj, fun i hi => absurd hi List.not_mem_nil, hk0, fun v hv => h.top v hv k (List.mem_cons_self ..), hsrt.1, hsrt.2⟩
    have hm' : q.length + negs out ≤ 2 ^ n := by omega
    have hv := visit_BJ h1 h4 hk (mv l n k) [] (out, q) (fun i hi => hi) hJ hm'
    rw [List.append_nil] at hv
    obtain ⟨b1, b2⟩ := visit_BI (l := l) h1 h4 hk (mv l n k) (out, q) hBp hk0 hm'
    have b2 : (visit l n k (out, q)).2.length + negs (visit l n k (out, q)).1 = q.length + negs out := b2
    have hQ : BQ l n (visit l n k (out, q)) := ⟨b1, hv.zero, hv.zer, hv.pred, fun p hp hp0 hpq j hj => by
      by_cases e : p = k
      · subst e
        exact hv.cur j (List.mem_reverse.2 hj)
      · exact hv.fin p hp hp0 hpq e j hj, fun v hv' x hx => by
        have a := hv.top v hv'
        have b := hv.low x hx
        have a : (visit l n k (out, q)).1.getD v 0 ≤ (visit l n k (out, q)).1.getD k 0 + 1 := a
        have b : (visit l n k (out, q)).1.getD k 0 ≤ (visit l n k (out, q)).1.getD x 0 := b
        omega, hv.srt⟩
    exact bfs_lev f _ hQ (by omega) (by omega)

theorem start_BQ : BQ l n (out0 n, [0]) := by
  have _ := h4
  obtain ⟨hb, _⟩ := start_BI h1
  have hN := Nat.two_pow_pos n
  have hg : ∀ z, z < 2 ^ n → (out0 n).getD z 0 = if z = 0 then 0 else -1 := fun z hz => by
    unfold out0
    rw [getD_set_int (by rw [List.length_replicate]; exact hN)]
    by_cases e : z = 0
    · rw [if_pos e.symm, if_pos e]
    · rw [if_neg (fun h => e h.symm), if_neg e, List.getD_eq_getElem?_getD, List.getElem?_replicate, if_pos hz]
      rfl
  have h0 : (out0 n).getD 0 0 = 0 := by rw [hg 0 hN, if_pos rfl]
  refine ⟨hb, h0, fun k hk e => ?_, fun z hz hp => ?_, fun p hp hp0 hpq => ?_, fun v hv x hx => ?_, List.pairwise_singleton ..⟩
  · have e : (out0 n).getD k 0 = 0 := e
    rw [hg k hk] at e
    split at e
    · assumption
    · cases e
  · have hp : 0 < (out0 n).getD z 0 := hp
    rw [hg z hz] at hp
    split at hp <;> omega
  · have hp0 : 0 ≤ (out0 n).getD p 0 := hp0
    rw [hg p hp] at hp0
    split at hp0
    · rename_i e
      subst e
      exact absurd (List.mem_singleton.2 rfl) hpq
    · omega
  · obtain rfl := List.mem_singleton.1 hx
    show (out0 n).getD v 0 ≤ (out0 n).getD 0 0 + 1
    rw [hg v hv, h0]
    split <;> omega

theorem lev_free (hf : freeB l (posE (bitsE n 0)) = true) : LevW l n (levL l n) ∧ (levL l n).getD 0 0 = 0 := by
  obtain ⟨_, hm⟩ := start_BI h1
  unfold levL
  rw [if_pos hf]
  have hm : ([0] : List Nat).length + negs (out0 n) = 2 ^ n := hm
  exact bfs_lev h1 h4 _ _ (start_BQ h1 h4) (Nat.le_of_eq hm) (by show ([0] : List Nat).length + negs (out0 n) < _; omega)

theorem rep_get (z : Nat) (hz : z < 2 ^ n) : (List.replicate (2 ^ n) (-1 : Int)).getD z 0 = -1 := by
  have _ := h1
  have _ := h4
  rw [List.getD_eq_getElem?_getD, List.getElem?_replicate, if_pos hz]
  rfl

theorem lev_any : LevW l n (levL l n) := by
  cases hf : freeB l (posE (bitsE n 0)) with
  | true => exact (lev_free h1 h4 hf).1
  | false =>
    have e : levL l n = List.replicate (2 ^ n) (-1) := by unfold levL; rw [hf]; rfl
    rw [e]
    have g := rep_get h1 h4
    exact ⟨List.length_replicate .., fun k hk => by rw [g k hk]; decide, fun k hk => by rw [g k hk]; omega, fun k hk h => by rw [g k hk] at h; omega, fun z hz h => by rw [g z hz] at h; omega, fun y hy h => by rw [g y hy] at h; omega⟩

end

end Go.Proofs.Ytoiblgbaeglgoaa
