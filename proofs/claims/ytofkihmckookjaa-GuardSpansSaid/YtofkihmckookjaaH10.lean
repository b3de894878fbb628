/-
  SPANS OF THE TWO-HAND SIGNAL: the plain laws of their list.
-/
import Derived.Test.YtofkihmckookjaaH9
namespace Go.Proofs.Ytofkihmckookjaa
open Go Go.Am

abbrev NONE : Int := -1099511627776

/-- What the law asks of the spans, from the front. -/
def spansOk (l : List Ev) : Int → List (Int × Int) → Bool
  | _, [] => true
  | last, (p, q) :: t => !decide (p < last) && (decide (q = NONE) || !decide (q < p)) && (!decide (q = NONE) || t.isEmpty) && l.any (pressAt p) && (decide (q = NONE) || l.any (releaseAt q)) && spansOk l (mx p q) t

structure SInv (l : List Ev) (sg : Hd) (tm : Int) : Prop where
  mem : ∀ x ∈ sg.out, l.any (pressAt x.1) = true ∧ 0 ≤ x.1 ∧ x.1 ≤ tm ∧ (x.2 ≠ NONE → x.1 ≤ x.2 ∧ x.2 ≤ tm ∧ l.any (releaseAt x.2) = true)
  pair : sg.out.Pairwise fun a b => a.1 ≤ b.1 ∧ a.2 ≤ b.1
  shut : ∀ init x, sg.out = init ++ [x] → ∀ y ∈ init, y.2 ≠ NONE
  both : ∀ init p, sg.out = init ++ [(p, NONE)] → sg.d0 = true ∧ sg.d1 = true

theorem snoc_cases {α : Type} (l : List α) : l = [] ∨ ∃ init x, l = init ++ [x] := by
  rcases List.eq_nil_or_concat l with h | ⟨i, x, h⟩
  · exact .inl h
  · rw [List.concat_eq_append] at h
    exact .inr ⟨i, x, h⟩

theorem any_append {l : List Ev} {e : Ev} {g : Ev → Bool} (h : l.any g = true) : (l ++ [e]).any g = true := by rw [List.any_append, h]; rfl

theorem SInv.more {l : List Ev} {sg sg' : Hd} {tm : Int} (h : SInv l sg tm) (e : Ev) (ht : tm ≤ e.1) (ho : sg'.out = sg.out) (hb : ∀ init p, sg.out = init ++ [(p, NONE)] → sg'.d0 = true ∧ sg'.d1 = true) : SInv (l ++ [e]) sg' e.1 := by
  refine ⟨fun x hx => ?_, by rw [ho]; exact h.pair, by rw [ho]; exact h.shut, by rw [ho]; exact hb⟩
  rw [ho] at hx
  obtain ⟨a, b, c, d⟩ := h.mem x hx
  exact ⟨any_append a, b, by omega, fun hq => let ⟨d1, d2, d3⟩ := d hq; ⟨d1, by omega, any_append d3⟩⟩

theorem SInv.app {l : List Ev} {sg sg' : Hd} {tm : Int} (h : SInv l sg tm) (e : Ev) (h0 : 0 ≤ e.1) (ht : tm ≤ e.1) (hd : e.2.2 = true) (hn : ¬ (sg.d0 = true ∧ sg.d1 = true)) (ho : sg'.out = sg.out ++ [(e.1, NONE)]) (hb : sg'.d0 = true ∧ sg'.d1 = true) : SInv (l ++ [e]) sg' e.1 := by
  have hall : ∀ y ∈ sg.out, y.2 ≠ NONE := by
    rcases snoc_cases sg.out with hnil | ⟨init, x, hc⟩
    · intro y hy; rw [hnil] at hy; cases hy
    · intro y hy
      rw [hc] at hy
      rcases List.mem_append.1 hy with hy | hy
      · exact h.shut init x hc y hy
      · obtain rfl := List.mem_singleton.1 hy
        intro hq
        obtain ⟨p, q⟩ := y
        simp only at hq
        subst hq
        exact hn (h.both init p hc)
  refine ⟨fun x hx => ?_, ?_, fun init x hc y hy => ?_, fun _ _ _ => hb⟩
  · rw [ho] at hx
    rcases List.mem_append.1 hx with hx | hx
    · obtain ⟨a, b, c, d⟩ := h.mem x hx
      exact ⟨any_append a, b, by omega, fun hq => let ⟨d1, d2, d3⟩ := d hq; ⟨d1, by omega, any_append d3⟩⟩
    · obtain rfl := List.mem_singleton.1 hx
      refine ⟨?_, h0, Int.le_refl _, fun hq => absurd rfl hq⟩
      rw [List.any_append, List.any_cons]
      have : pressAt e.1 e = true := by simp [pressAt, hd]
      simp [this]
  · rw [ho, List.pairwise_append]
    refine ⟨h.pair, List.pairwise_singleton .., fun a ha b hb => ?_⟩
    obtain rfl := List.mem_singleton.1 hb
    obtain ⟨_, _, c, d⟩ := h.mem a ha
    obtain ⟨_, d2, _⟩ := d (hall a ha)
    exact ⟨by omega, by omega⟩
  · rw [ho] at hc
    obtain ⟨rfl, _⟩ := List.append_inj' hc rfl
    exact hall y hy

theorem SInv.close {l : List Ev} {sg sg' : Hd} {tm : Int} (h : SInv l sg tm) (e : Ev) (h0 : 0 ≤ e.1) (ht : tm ≤ e.1) (hd : e.2.2 = false) (ho : sg'.out = closeL sg.out e.1) : SInv (l ++ [e]) sg' e.1 := by
  rcases snoc_cases sg.out with hnil | ⟨init, ⟨p, q⟩, hc⟩
  · refine h.more e ht (by rw [ho, hnil]; rfl) fun init p hc => ?_
    rw [hnil] at hc
    exact absurd hc (by simp)
  rw [hc, closeL_eq] at ho
  by_cases hq : q = NONE
  · rw [if_pos hq] at ho
    have hm := h.mem
    have hp := h.pair
    rw [hc] at hm hp
    refine ⟨fun x hx => ?_, ?_, fun init' x hc' y hy => ?_, fun init' p' hc' => ?_⟩
    · rw [ho] at hx
      rcases List.mem_append.1 hx with hx | hx
      · obtain ⟨a, b, c, d⟩ := hm x (List.mem_append_left _ hx)
        exact ⟨any_append a, b, by omega, fun hq => let ⟨d1, d2, d3⟩ := d hq; ⟨d1, by omega, any_append d3⟩⟩
      · obtain rfl := List.mem_singleton.1 hx
        obtain ⟨a, b, c, _⟩ := hm (p, q) (List.mem_append_right _ (List.mem_cons_self ..))
        refine ⟨any_append a, b, by simp only at c ⊢; omega, fun _ => ⟨by simp only at c ⊢; omega, Int.le_refl _, ?_⟩⟩
        rw [List.any_append, List.any_cons]
        have : releaseAt e.1 e = true := by simp [releaseAt, hd]
        simp [this]
    · rw [ho, List.pairwise_append]
      rw [List.pairwise_append] at hp
      refine ⟨hp.1, List.pairwise_singleton .., fun a ha b hb => ?_⟩
      obtain rfl := List.mem_singleton.1 hb
      exact hp.2.2 a ha (p, q) (List.mem_cons_self ..)
    · rw [ho] at hc'
      obtain ⟨rfl, _⟩ := List.append_inj' hc' rfl
      exact h.shut init (p, q) hc y hy
    · rw [ho] at hc'
      obtain ⟨_, hx⟩ := List.append_inj' hc' rfl
      injection hx with hx
      injection hx with _ hx
      have hx : e.1 = -1099511627776 := hx
      omega
  · rw [if_neg hq] at ho
    refine h.more e ht (by rw [ho, hc]) fun init' p' hc' => ?_
    rw [hc] at hc'
    obtain ⟨_, hx⟩ := List.append_inj' hc' rfl
    injection hx with hx
    injection hx with _ hx
    exact absurd hx hq

theorem sinv_step {l : List Ev} {sg : Hd} {tm : Int} (w : Int) (h : SInv l sg tm) (e : Ev) (h0 : 0 ≤ e.1) (ht : tm ≤ e.1) : SInv (l ++ [e]) (hstep w sg e) e.1 := by
  obtain ⟨out, d0, d1, s0, s1, rdy⟩ := sg
  obtain ⟨at_, r, d⟩ := e
  have keep : ¬ (d0 = true ∧ d1 = true) → ∀ {sg' : Hd}, sg'.out = out → SInv (l ++ [(at_, r, d)]) sg' at_ := fun hn sg' ho =>
    h.more (at_, r, d) ht ho fun init p hc => absurd (h.both init p hc) hn
  have stay : SInv (l ++ [(at_, r, d)]) ⟨out, d0, d1, s0, s1, rdy⟩ at_ := h.more (at_, r, d) ht rfl h.both
  have bo : d = true → ¬ (d0 = true ∧ d1 = true) → ∀ s0' s1', SInv (l ++ [(at_, r, d)]) (both w out s0' s1' at_ rdy) at_ := by
    intro hd hn s0' s1'
    by_cases hc : rdy = true ∧ IntKind.wrap .i64 (mx s0' s1' - mn s0' s1') ≤ w
    · exact h.app (at_, r, d) h0 ht hd hn (if_pos hc) ⟨rfl, rfl⟩
    · exact keep hn (if_neg hc)
  cases r <;> cases d <;> cases d0 <;> cases d1
  all_goals first
    | exact stay
    | exact keep (by simp) rfl
    | exact bo rfl (by simp) _ _
    | exact h.close (at_, _, _) h0 ht rfl rfl

theorem chk_times : ∀ (l : List Ev) (p : Option Int), chk p l = 0 → (∀ e ∈ l, 0 ≤ e.1) ∧ (∀ e t, l = e :: t → ∀ q, p = some q → q ≤ e.1) ∧ l.Pairwise fun a b => a.1 ≤ b.1
  | [], _, _ => ⟨fun e he => absurd he List.not_mem_nil, fun e t h => by simp at h, List.Pairwise.nil⟩
  | x :: l, p, h => by
    unfold chk at h
    split at h
    · cases h
    · rename_i hx
      split at h
      · cases h
      · rename_i hb
        obtain ⟨a, b, c⟩ := chk_times l (some x.1) h
        refine ⟨fun e he => ?_, fun e t ht q hq => ?_, ?_⟩
        · rcases List.mem_cons.1 he with rfl | he
          · omega
          · exact a e he
        · injection ht with ht _
          subst ht hq
          have : ¬ x.1 < q := by simpa [before] using hb
          omega
        · refine List.Pairwise.cons (fun e he => ?_) c
          cases l with
          | nil => cases he
          | cons y t =>
            have h1 := b y t rfl x.1 rfl
            rcases List.mem_cons.1 he with rfl | he
            · exact h1
            · have := (List.pairwise_cons.1 c).1 e he
              omega

theorem sinv_scan (w : Int) : ∀ (k l : List Ev) (sg : Hd) (tm : Int), SInv l sg tm → (∀ e ∈ k, 0 ≤ e.1 ∧ tm ≤ e.1) → k.Pairwise (fun a b => a.1 ≤ b.1) → ∃ tm', SInv (l ++ k) (k.foldl (hstep w) sg) tm'
  | [], l, sg, tm, h, _, _ => ⟨tm, by simpa using h⟩
  | e :: k, l, sg, tm, h, hk, hp => by
    obtain ⟨h0, ht⟩ := hk e (List.mem_cons_self ..)
    obtain ⟨p1, p2⟩ := List.pairwise_cons.1 hp
    obtain ⟨tm', h2⟩ := sinv_scan w k (l ++ [e]) (hstep w sg e) e.1 (sinv_step w h e h0 ht) (fun x hx => ⟨(hk x (List.mem_cons_of_mem _ hx)).1, p1 x hx⟩) p2
    exact ⟨tm', by simpa using h2⟩

theorem spansOk_of (l : List Ev) : ∀ (out : List (Int × Int)) (last : Int), (∀ x ∈ out, last ≤ x.1) → (∀ x ∈ out, l.any (pressAt x.1) = true ∧ (x.2 ≠ NONE → x.1 ≤ x.2 ∧ l.any (releaseAt x.2) = true)) → out.Pairwise (fun a b => a.1 ≤ b.1 ∧ a.2 ≤ b.1) →
    (∀ init x, out = init ++ [x] → ∀ y ∈ init, y.2 ≠ NONE) → spansOk l last out = true
  | [], _, _, _, _, _ => rfl
  | (p, q) :: t, last, h1, h2, h3, h4 => by
    obtain ⟨p1, p2⟩ := List.pairwise_cons.1 h3
    obtain ⟨a, b⟩ := h2 (p, q) (List.mem_cons_self ..)
    have c := h1 (p, q) (List.mem_cons_self ..)
    have ht : q = NONE → t = [] := fun hq => by
      rcases snoc_cases t with hn | ⟨init, x, hc⟩
      · exact hn
      · exact absurd hq (h4 ((p, q) :: init) x (by rw [hc]; rfl) (p, q) (List.mem_cons_self ..))
    have ih := spansOk_of l t (mx p q) (fun x hx => by have := p1 x hx; unfold mx; split <;> omega) (fun x hx => h2 x (List.mem_cons_of_mem _ hx)) p2 fun init x hc y hy => h4 ((p, q) :: init) x (by rw [hc]; rfl) y (List.mem_cons_of_mem _ hy)
    simp only [spansOk, Bool.and_eq_true, Bool.or_eq_true, Bool.not_eq_true', decide_eq_true_eq, decide_eq_false_iff_not]
    refine ⟨⟨⟨⟨⟨by simp only at c; omega, ?_⟩, ?_⟩, a⟩, ?_⟩, ih⟩
    · by_cases hq : q = NONE
      · exact .inl hq
      · have := (b hq).1; exact .inr (by simp only at this; omega)
    · by_cases hq : q = NONE
      · exact .inr (by rw [ht hq]; rfl)
      · exact .inl hq
    · by_cases hq : q = NONE
      · exact .inl hq
      · exact .inr (b hq).2

theorem scan_spans (w : Int) (l : List Ev) (h : chk none l = 0) : spansOk l 0 (scan w l).out = true := by
  obtain ⟨a, _, c⟩ := chk_times l none h
  have h0 : SInv [] ⟨[], false, false, 0, 0, true⟩ 0 := ⟨fun x hx => absurd hx List.not_mem_nil, List.Pairwise.nil, fun init x hc => by simp at hc, fun init p hc => by simp at hc⟩
  obtain ⟨tm, hs⟩ := sinv_scan w l [] _ 0 h0 (fun e he => ⟨a e he, a e he⟩) c
  rw [List.nil_append] at hs
  exact spansOk_of l _ 0 (fun x hx => (hs.mem x hx).2.1) (fun x hx => ⟨(hs.mem x hx).1, fun hq => ⟨((hs.mem x hx).2.2.2 hq).1, ((hs.mem x hx).2.2.2 hq).2.2⟩⟩) hs.pair hs.shut

/-! ### A wider window -/

/-- The first span of the second list begins no later. -/
def sooner (a b : List (Int × Int)) (tm : Int) : Prop := (∀ x ∈ b.head?, x.1 ≤ tm) ∧ ∀ x ∈ a.head?, ∃ y ∈ b.head?, y.1 ≤ x.1

theorem head_close (out : List (Int × Int)) (at_ : Int) : (closeL out at_).head?.map (·.1) = out.head?.map (·.1) := by
  rcases snoc_cases out with hn | ⟨init, ⟨p, q⟩, hc⟩
  · subst hn; rfl
  · rw [hc, closeL_eq]
    split
    · cases init <;> rfl
    · rfl

theorem sooner_of {a b a' b' : List (Int × Int)} {tm tm' : Int} (ht : tm ≤ tm') (ha : a'.head?.map (·.1) = a.head?.map (·.1)) (hb : b'.head?.map (·.1) = b.head?.map (·.1)) (h : sooner a b tm) : sooner a' b' tm' := by
  obtain ⟨h1, h2⟩ := h
  have key : ∀ {x : Int × Int} {u v : List (Int × Int)}, u.head?.map (·.1) = v.head?.map (·.1) → x ∈ u.head? → ∃ y ∈ v.head?, y.1 = x.1 := by
    intro x u v e hx
    cases u with
    | nil => cases hx
    | cons z u =>
      cases v with
      | nil => simp at e
      | cons y v => simp at e hx; subst hx; exact ⟨y, rfl, e.symm⟩
  refine ⟨fun x hx => ?_, fun x hx => ?_⟩
  · obtain ⟨y, hy, e⟩ := key hb hx
    have := h1 y hy; omega
  · obtain ⟨y, hy, e⟩ := key ha hx
    obtain ⟨z, hz, e2⟩ := h2 y hy
    obtain ⟨u, hu, e3⟩ := key hb.symm hz
    exact ⟨u, hu, by omega⟩

theorem sooner_step {v w : Int} (hvw : v ≤ w) {a b : List (Int × Int)} {d0 d1 : Bool} {s0 s1 : Int} {rdy : Bool} {tm : Int} (e : Ev) (ht : tm ≤ e.1) (h : sooner a b tm) :
    sooner (hstep v ⟨a, d0, d1, s0, s1, rdy⟩ e).out (hstep w ⟨b, d0, d1, s0, s1, rdy⟩ e).out e.1 ∧ ∃ d0' d1' s0' s1' rdy', hstep v ⟨a, d0, d1, s0, s1, rdy⟩ e = ⟨(hstep v ⟨a, d0, d1, s0, s1, rdy⟩ e).out, d0', d1', s0', s1', rdy'⟩ ∧ hstep w ⟨b, d0, d1, s0, s1, rdy⟩ e = ⟨(hstep w ⟨b, d0, d1, s0, s1, rdy⟩ e).out, d0', d1', s0', s1', rdy'⟩ := by
  obtain ⟨at_, r, d⟩ := e
  have stay : sooner a b at_ := sooner_of ht rfl rfl h
  have cl : sooner (closeL a at_) (closeL b at_) at_ := sooner_of ht (head_close a at_) (head_close b at_) h
  have bo : ∀ s0' s1', sooner (both v a s0' s1' at_ rdy).out (both w b s0' s1' at_ rdy).out at_ := by
    intro s0' s1'
    unfold both
    simp only
    have hb : sooner a (b ++ [(at_, -1099511627776)]) at_ := by
      cases b with
      | nil => exact ⟨fun x hx => (by simp at hx; subst hx; exact Int.le_refl _), fun x hx => by obtain ⟨y, hy, _⟩ := h.2 x hx; simp at hy⟩
      | cons y b => exact sooner_of ht rfl rfl h
    by_cases hv : rdy = true ∧ IntKind.wrap .i64 (mx s0' s1' - mn s0' s1') ≤ v
    · have hw : rdy = true ∧ IntKind.wrap .i64 (mx s0' s1' - mn s0' s1') ≤ w := ⟨hv.1, by omega⟩
      rw [if_pos hv, if_pos hw]
      cases a with
      | cons y a => exact sooner_of (Int.le_refl _) rfl rfl hb
      | nil =>
        refine ⟨hb.1, fun x hx => ?_⟩
        simp at hx
        subst hx
        cases b with
        | nil => exact ⟨_, rfl, Int.le_refl _⟩
        | cons y b => exact ⟨y, rfl, hb.1 y rfl⟩
    · rw [if_neg hv]
      by_cases hw : rdy = true ∧ IntKind.wrap .i64 (mx s0' s1' - mn s0' s1') ≤ w
      · rw [if_pos hw]; exact hb
      · rw [if_neg hw]; exact stay
  cases r <;> cases d <;> cases d0 <;> cases d1
  all_goals
    refine ⟨?_, _, _, _, _, _, rfl, rfl⟩
    first
      | exact stay
      | exact cl
      | exact bo _ _

theorem sooner_scan {v w : Int} (hvw : v ≤ w) : ∀ (k : List Ev) (a b : List (Int × Int)) (d0 d1 : Bool) (s0 s1 : Int) (rdy : Bool) (tm : Int), sooner a b tm → (∀ e ∈ k, tm ≤ e.1) → k.Pairwise (fun a b => a.1 ≤ b.1) →
    ∃ tm', sooner (k.foldl (hstep v) ⟨a, d0, d1, s0, s1, rdy⟩).out (k.foldl (hstep w) ⟨b, d0, d1, s0, s1, rdy⟩).out tm'
  | [], a, b, _, _, _, _, _, tm, h, _, _ => ⟨tm, h⟩
  | e :: k, a, b, d0, d1, s0, s1, rdy, tm, h, hk, hp => by
    obtain ⟨p1, p2⟩ := List.pairwise_cons.1 hp
    obtain ⟨h1, d0', d1', s0', s1', rdy', e1, e2⟩ := sooner_step (d0 := d0) (d1 := d1) (s0 := s0) (s1 := s1) (rdy := rdy) hvw e (hk e (List.mem_cons_self ..)) h
    rw [List.foldl_cons, List.foldl_cons, e1, e2]
    exact sooner_scan hvw k _ _ d0' d1' s0' s1' rdy' e.1 h1 p1 p2

theorem scan_sooner {v w : Int} (hvw : v ≤ w) (l : List Ev) (h : chk none l = 0) : ∀ x ∈ (scan v l).out.head?, ∃ y ∈ (scan w l).out.head?, y.1 ≤ x.1 := by
  obtain ⟨a, _, c⟩ := chk_times l none h
  obtain ⟨tm, hs⟩ := sooner_scan hvw l [] [] false false 0 0 true 0 ⟨fun x hx => (by cases hx), fun x hx => by cases hx⟩ a c
  exact hs.2

end Go.Proofs.Ytofkihmckookjaa
