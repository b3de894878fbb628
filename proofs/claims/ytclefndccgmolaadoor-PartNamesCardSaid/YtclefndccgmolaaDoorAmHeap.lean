/-
  HOW THE ABSTRACT HEAP FOLLOWS THE WORLD: a block made, a block written, a block grown, a block forgotten. A general base for proofs.
-/
import Derived.Test.YtclefndccgmolaaDoorAmRel
namespace Go.Am
open Go Go.RowKit

theorem cell?_of_heap {w w' : World} {b : Nat} (h : w'.heap[b]? = w.heap[b]?) (i : Nat) : w'.cell? ⟨b, i, none⟩ = w.cell? ⟨b, i, none⟩ := by
  simp only [World.cell?, h]

theorem lt_of_cell {w : World} {b i : Nat} {x : Value} (h : w.cell? ⟨b, i, none⟩ = some x) : b < w.heap.size := by
  simp only [World.cell?] at h
  cases hb : w.heap[b]? with
  | none => rw [hb] at h; cases h
  | some o => exact (Array.getElem?_eq_some_iff.1 hb).1

theorem ORel.evo {w w' : World} {I I' : LI} {l : Loc} {o : AObj} (h : ORel w I l o) (e : Evo I w I' w')
    (hb : ∀ b base n, l = .at b base n → w'.heap[b]? = w.heap[b]?) : ORel w' I' l o := by
  cases l with
  | void => cases o <;> exact h
  | «at» b base n =>
    have hb := hb b base n rfl
    cases o with
    | cells cs =>
      obtain ⟨c, elem, h1, h2, h3, h4⟩ := h
      exact ⟨c, elem, hb.trans h1, h2, h3, fun i x hx => (h4 i x hx).evo e⟩
    | loop st pe size tmps ps assign body df =>
      obtain ⟨r, h1, h2, h3, h4, h5, h6, h7, h8, h9⟩ := h
      exact ⟨r, hb.trans h1, h2, h3, h4.evo e, h5, h6, h7, Nat.lt_of_lt_of_le h8 e.clk, fun b' base' n' hl => h9 b' base' n' (e.loc _ _ _ h8 hl)⟩
    | deferred => exact hb.trans h
    | map es =>
      obtain ⟨m, q, h1, h2, h3⟩ := h
      exact ⟨m, q, hb.trans h1, h2, fun i k v hi => let ⟨x, a1, a2, a3⟩ := h3 i k v hi; ⟨x, a1, a2.evo e, a3.evo e⟩⟩

/-- The label with one name bound anew, at a fresh stamp. -/
def LI.bind (I : LI) (id : Nat) (l : Loc) : LI :=
  { loc := fun i s => if i = id then (if s = I.clk then some l else none) else I.loc i s, clk := I.clk + 1, ok := I.ok }

theorem LI.bind_same (I : LI) (id : Nat) (l : Loc) : (I.bind id l).loc id I.clk = some l := by simp [LI.bind]

theorem LI.bind_some {I : LI} {id : Nat} {l : Loc} {i s : Nat} {x : Loc} (h : (I.bind id l).loc i s = some x) : (i = id ∧ s = I.clk ∧ x = l) ∨ (i ≠ id ∧ I.loc i s = some x) := by
  simp only [LI.bind] at h
  by_cases hi : i = id
  · rw [if_pos hi] at h
    by_cases hs : s = I.clk
    · rw [if_pos hs] at h; injection h with h; exact .inl ⟨hi, hs, h.symm⟩
    · rw [if_neg hs] at h; cases h
  · rw [if_neg hi] at h; exact .inr ⟨hi, h⟩

/-- ONE STEP OF THE WORLD THAT BINDS A NAME ANEW: a block made ('id' free), a block grown in place or moved ('id' bound before). -/
theorem HRel.bind {w0 w w' : World} {N0 next next' id : Nat} {I : LI} {hp : List (Nat × Nat × AObj)} {l : Loc} {o : AObj} (h : HRel w0 N0 I hp next w) (hbelow : Below N0 w w')
    (hold : ∀ b, b < w.heap.size → (∀ st base n, I.loc id st ≠ some (.at b base n)) → w'.heap[b]? = w.heap[b]?)
    (hl : ∀ b base n, l = .at b base n → w.heap.size ≤ b ∨ ∃ st base' n', I.loc id st = some (.at b base' n'))
    (ho : Evo I w (I.bind id l) w' → ORel w' (I.bind id l) l o) (hn : next ≤ next') (hid : id < next') :
    HRel w0 N0 (I.bind id l) (putl id (I.clk, o) hp) next' w' ∧ Evo I w (I.bind id l) w' := by
  have hE : Evo I w (I.bind id l) w' := by
    refine ⟨Nat.le_succ _, fun i st x hs hx => ?_, fun b i x hro hc => ⟨⟨hro.1, fun i' st base n hx => ?_⟩, ?_⟩, rfl⟩
    · rcases LI.bind_some hx with ⟨_, rfl, _⟩ | ⟨_, hx⟩
      · omega
      · exact hx
    · rcases LI.bind_some hx with ⟨_, _, hxl⟩ | ⟨_, hx⟩
      · rcases hl b base n hxl.symm with hge | ⟨st', base', n', hb'⟩
        · have := lt_of_cell hc; omega
        · exact hro.2 _ _ _ _ hb'
      · exact hro.2 _ _ _ _ hx
    · rw [cell?_of_heap (hold b (lt_of_cell hc) (fun st base n => hro.2 id st base n))]
      exact hc
  refine ⟨⟨h.below.trans hbelow, h.base, ?_, ?_, ?_, ?_, ?_, h.okN, h.glob.mono hE.ro⟩, hE⟩
  · intro i st o' hi
    rw [look_putl] at hi
    by_cases hii : id = i
    · subst hii
      rw [if_pos rfl] at hi
      injection hi with hi
      injection hi with h1 h2
      subst h1 h2
      exact ⟨Nat.lt_succ_self _, l, LI.bind_same I id l, ho hE⟩
    · rw [if_neg hii] at hi
      obtain ⟨hs, l', hl', hol⟩ := h.heap i st o' hi
      have hne : i ≠ id := fun e => hii e.symm
      refine ⟨Nat.lt_succ_of_lt hs, l', by simp [LI.bind, hne, hl'], hol.evo hE fun b base n hlb => ?_⟩
      subst hlb
      refine hold b ?_ fun st' base' n' hb' => hne (h.inj _ _ _ _ _ _ _ _ _ hl' hb')
      cases o' with
      | cells cs => obtain ⟨c, elem, h1, _⟩ := hol; exact (Array.getElem?_eq_some_iff.1 h1).1
      | loop => obtain ⟨c, h1, _⟩ := hol; exact (Array.getElem?_eq_some_iff.1 h1).1
      | deferred => exact (Array.getElem?_eq_some_iff.1 hol).1
      | map es => obtain ⟨c, elem, h1, _⟩ := hol; exact (Array.getElem?_eq_some_iff.1 h1).1
  · intro i st x hx
    rw [look_putl]
    rcases LI.bind_some hx with ⟨rfl, rfl, _⟩ | ⟨hne, hx⟩
    · exact ⟨o, by rw [if_pos rfl]⟩
    · obtain ⟨o', ho'⟩ := h.locs i st x hx
      exact ⟨o', by rw [if_neg (fun e => hne e.symm)]; exact ho'⟩
  · intro i st b base n i' st' base' n' h1 h2
    have key : ∀ i st base n, I.loc i st = some (.at b base n) → i ≠ id → l = .at b base' n' ∨ (∃ bs ns, l = .at b bs ns) → False := by
      intro i st base n hi hne hl'
      have hlt : b < w.heap.size := by
        obtain ⟨o', ho'⟩ := h.locs i st _ hi
        obtain ⟨_, l', hl'', hol⟩ := h.heap i st o' ho'
        rw [hi] at hl''; injection hl'' with hl''; subst hl''
        cases o' with
        | cells cs => obtain ⟨c, elem, h1, _⟩ := hol; exact (Array.getElem?_eq_some_iff.1 h1).1
        | loop => obtain ⟨c, h1, _⟩ := hol; exact (Array.getElem?_eq_some_iff.1 h1).1
        | deferred => exact (Array.getElem?_eq_some_iff.1 hol).1
        | map es => obtain ⟨c, elem, h1, _⟩ := hol; exact (Array.getElem?_eq_some_iff.1 h1).1
      have hl2 : ∃ bs ns, l = .at b bs ns := by
        rcases hl' with h' | h'
        · exact ⟨_, _, h'⟩
        · exact h'
      obtain ⟨bs, ns, hl2⟩ := hl2
      rcases hl b bs ns hl2 with hge | ⟨st', base', n', hb'⟩
      · omega
      · exact hne (h.inj _ _ _ _ _ _ _ _ _ hi hb')
    rcases LI.bind_some h1 with ⟨i1, _, e1⟩ | ⟨n1, k1⟩
    · rcases LI.bind_some h2 with ⟨i2, _, e2⟩ | ⟨n2, k2⟩
      · exact i1.trans i2.symm
      · exact (key i' st' base' n' k2 n2 (.inr ⟨_, _, e1.symm⟩)).elim
    · rcases LI.bind_some h2 with ⟨i2, _, e2⟩ | ⟨n2, k2⟩
      · exact (key i st base n k1 n1 (.inr ⟨_, _, e2.symm⟩)).elim
      · exact h.inj _ _ _ _ _ _ _ _ _ k1 k2
  · intro i st b base n hx
    rcases LI.bind_some hx with ⟨_, _, e⟩ | ⟨_, hx⟩
    · rcases hl b base n e.symm with hge | ⟨st', base', n', hb'⟩
      · exact Nat.le_trans h.base (Nat.le_trans h.below.size hge)
      · exact h.fresh _ _ _ _ _ hb'
    · exact h.fresh _ _ _ _ _ hx
  · intro i hi
    rw [look_putl, if_neg (by omega)]
    exact h.free i (by omega)

/-- A block is written, its name and its stamp stay. -/
theorem HRel.write {w0 w w' : World} {N0 next id st : Nat} {I : LI} {hp : List (Nat × Nat × AObj)} {b base n : Nat} {o o' : AObj} (h : HRel w0 N0 I hp next w) (hbelow : Below N0 w w')
    (hloc : I.loc id st = some (.at b base n)) (hlook : look id hp = some (st, o)) (hold : ∀ b', b' ≠ b → w'.heap[b']? = w.heap[b']?) (ho : Evo I w I w' → ORel w' I (.at b base n) o') :
    HRel w0 N0 I (putl id (st, o') hp) next w' ∧ Evo I w I w' := by
  have hE : Evo I w I w' := by
    refine ⟨Nat.le_refl _, fun _ _ _ _ hx => hx, fun b' i x hro hc => ⟨hro, ?_⟩, rfl⟩
    rw [cell?_of_heap (hold b' fun e => ?_)]
    · exact hc
    · subst e; exact hro.2 _ _ _ _ hloc
  refine ⟨⟨h.below.trans hbelow, h.base, ?_, ?_, h.inj, h.fresh, ?_, h.okN, h.glob.mono hE.ro⟩, hE⟩
  · intro i st' o'' hi
    rw [look_putl] at hi
    by_cases hii : id = i
    · subst hii
      rw [if_pos rfl] at hi
      injection hi with hi
      injection hi with h1 h2
      subst h1 h2
      exact ⟨(h.heap _ _ _ hlook).1, _, hloc, ho hE⟩
    · rw [if_neg hii] at hi
      obtain ⟨hs, l', hl', hol⟩ := h.heap i st' o'' hi
      refine ⟨hs, l', hl', hol.evo hE fun b2 base2 n2 hlb => hold b2 fun e => ?_⟩
      subst hlb e
      exact hii (h.inj _ _ _ _ _ _ _ _ _ hloc hl')
  · intro i st' x hx
    rw [look_putl]
    obtain ⟨o1, ho1⟩ := h.locs i st' x hx
    by_cases hii : id = i
    · subst hii
      rw [hlook] at ho1
      injection ho1 with ho1
      injection ho1 with e1 e2
      subst e1
      exact ⟨o', by rw [if_pos rfl]⟩
    · exact ⟨o1, by rw [if_neg hii]; exact ho1⟩
  · intro i hi
    have := h.free i hi
    rw [look_putl]
    by_cases hii : id = i
    · subst hii; rw [hlook] at this; cases this
    · rw [if_neg hii]; exact this

/-- The label with one name forgotten. -/
def LI.drop (I : LI) (id : Nat) : LI := { loc := fun i s => if i = id then none else I.loc i s, clk := I.clk, ok := I.ok }

theorem LI.drop_some {I : LI} {id i s : Nat} {x : Loc} (h : (I.drop id).loc i s = some x) : i ≠ id ∧ I.loc i s = some x := by
  simp only [LI.drop] at h
  by_cases hi : i = id
  · rw [if_pos hi] at h; cases h
  · rw [if_neg hi] at h; exact ⟨hi, h⟩

theorem Evo.drop (I : LI) (w : World) (id : Nat) : Evo I w (I.drop id) w :=
  ⟨Nat.le_refl _, fun _ _ _ _ h => (LI.drop_some h).2, fun _ _ _ hr hc => ⟨⟨hr.1, fun _ _ _ _ h => hr.2 _ _ _ _ (LI.drop_some h).2⟩, hc⟩, rfl⟩

theorem HRel.drop {w0 w : World} {N0 next : Nat} {I : LI} {hp : List (Nat × Nat × AObj)} (h : HRel w0 N0 I hp next w) (id : Nat) : HRel w0 N0 (I.drop id) (dropl id hp) next w := by
  refine ⟨h.below, h.base, ?_, ?_, ?_, ?_, ?_, h.okN, h.glob.mono (Evo.drop I w id).ro⟩
  · intro i st o hi
    rw [look_dropl] at hi
    by_cases hii : id = i
    · rw [if_pos hii] at hi; cases hi
    · rw [if_neg hii] at hi
      obtain ⟨hs, l, hl, hol⟩ := h.heap i st o hi
      have hne : i ≠ id := fun e => hii e.symm
      exact ⟨hs, l, by simp [LI.drop, hne, hl], hol.evo (Evo.drop I w id) fun _ _ _ _ => rfl⟩
  · intro i st l hl
    obtain ⟨hne, hl⟩ := LI.drop_some hl
    obtain ⟨o, ho⟩ := h.locs i st l hl
    exact ⟨o, by rw [look_dropl, if_neg (fun e => hne e.symm)]; exact ho⟩
  · intro i st b base n i' st' base' n' h1 h2
    exact h.inj _ _ _ _ _ _ _ _ _ (LI.drop_some h1).2 (LI.drop_some h2).2
  · intro i st b base n h1
    exact h.fresh _ _ _ _ _ (LI.drop_some h1).2
  · intro i hi
    rw [look_dropl]
    split
    · rfl
    · exact h.free i hi

/-- Names are free from another number on. -/
theorem HRel.next' {w0 w : World} {N0 next next' : Nat} {I : LI} {hp : List (Nat × Nat × AObj)} (h : HRel w0 N0 I hp next w) (hn : ∀ id, next' ≤ id → look id hp = none) : HRel w0 N0 I hp next' w :=
  ⟨h.below, h.base, h.heap, h.locs, h.inj, h.fresh, hn, h.okN, h.glob⟩

theorem HRel.drew {w0 w : World} {N0 next : Nat} {I : LI} {hp : List (Nat × Nat × AObj)} (h : HRel w0 N0 I hp next w) : HRel w0 N0 I hp next w.drew ∧ Evo I w I w.drew := by
  have hE : Evo I w I w.drew := ⟨Nat.le_refl _, fun _ _ _ _ h => h, fun _ _ _ hr hc => ⟨hr, hc⟩, rfl⟩
  exact ⟨⟨h.below.drew, h.base, fun i st o hi => let ⟨a, l, b, c⟩ := h.heap i st o hi; ⟨a, l, b, c.evo hE fun _ _ _ _ => rfl⟩, h.locs, h.inj, h.fresh, h.free, h.okN, h.glob.mono hE.ro⟩, hE⟩

theorem HRel.congr {w0 w : World} {N0 next : Nat} {I : LI} {hp hp' : List (Nat × Nat × AObj)} (h : HRel w0 N0 I hp next w) (e : ∀ i, look i hp' = look i hp) : HRel w0 N0 I hp' next w :=
  ⟨h.below, h.base, fun i st o hi => h.heap i st o (by rw [← e]; exact hi), fun i st l hl => by obtain ⟨o, ho⟩ := h.locs i st l hl; exact ⟨o, by rw [e]; exact ho⟩, h.inj, h.fresh, fun i hi => by rw [e]; exact h.free i hi, h.okN, h.glob⟩

theorem DRel.bind {I : LI} {hp : List (Nat × Nat × AObj)} {marks : List (Nat × Nat)} {ds : List Deferred} (h : DRel I hp marks ds) {id s : Nat} {o : AObj} {l : Loc} (hne : ∀ st, look id hp ≠ some (st, .deferred)) :
    DRel (I.bind id l) (putl id (s, o) hp) marks ds := by
  refine ⟨h.1, fun i id' st d h1 h2 => ?_, h.2.2⟩
  obtain ⟨h3, b, base, n, h4, h5⟩ := h.2.1 i id' st d h1 h2
  have hn : id ≠ id' := by intro e; subst e; exact hne st h3
  refine ⟨by rw [look_putl, if_neg hn]; exact h3, b, base, n, ?_, h5⟩
  simp [LI.bind, h4]
  exact fun e => absurd e.symm hn

theorem DRel.write {I : LI} {hp : List (Nat × Nat × AObj)} {marks : List (Nat × Nat)} {ds : List Deferred} (h : DRel I hp marks ds) {id s : Nat} {o : AObj} (hne : ∀ st, look id hp ≠ some (st, .deferred)) :
    DRel I (putl id (s, o) hp) marks ds := by
  refine ⟨h.1, fun i id' st d h1 h2 => ?_, h.2.2⟩
  obtain ⟨h3, b, base, n, h4, h5⟩ := h.2.1 i id' st d h1 h2
  have hn : id ≠ id' := by intro e; subst e; exact hne st h3
  exact ⟨by rw [look_putl, if_neg hn]; exact h3, b, base, n, h4, h5⟩

theorem DRel.congr {I : LI} {hp hp' : List (Nat × Nat × AObj)} {marks : List (Nat × Nat)} {ds : List Deferred} (h : DRel I hp marks ds) (e : ∀ i, look i hp' = look i hp) : DRel I hp' marks ds :=
  ⟨h.1, fun i id' st d h1 h2 => by rw [e]; exact h.2.1 i id' st d h1 h2, h.2.2⟩

end Go.Am
