/-
  APPEND AND COPY. A general base for proofs: no program is named here.
-/
import Derived.Test.YtclefndccgmolaaDoorAmOps10
namespace Go.Am
open Go Go.RowKit

theorem growBy_le (need : Nat) : ∀ (r c : Nat), c < need → Builtin.growBy need r c ≤ 2 * need + 200
  | 0, c, h => by simp [Builtin.growBy]; omega
  | r + 1, c, h => by
    simp only [Builtin.growBy]
    rw [if_neg (by omega)]
    by_cases h2 : c + (c + 768) / 4 < need
    · exact growBy_le need r _ h2
    · have : ∀ r, Builtin.growBy need r (c + (c + 768) / 4) = c + (c + 768) / 4 := by
        intro r; cases r with
        | zero => rfl
        | succ r => simp only [Builtin.growBy]; rw [if_pos (by omega)]
      rw [this]; omega

theorem nextcap_le (need cap : Nat) (h : cap < need) : Builtin.nextslicecap need cap ≤ 2 * need + 200 := by
  unfold Builtin.nextslicecap
  split
  · omega
  · split
    · omega
    · exact growBy_le need 4 cap h

section
variable {P : Program} {w0 w : World} {N0 : Nat} {I : LI} {S S' : AS} {a : Act} {io : IOp} {v : AV}

/-- The first cells of a slice that shows elements. -/
theorem elems_rel (h : Rel w0 N0 I S a w) {sz : Nat} {xv : AV} {u : Value} {es : List (List AV)} (hx : VRel w I.ro (some I) xv u) (he : S.elems sz xv = some es) :
    ∃ p len c, u = .slice p len c ∧ len = es.length ∧ len ≤ c ∧ (∀ e ∈ es, e.length = sz) ∧
      ∀ m, m ≤ len → ∃ arr, (Builtin.firstCells sz m u).run P w = .ok arr w ∧ CRel w I.ro (some I) ((es.take m).flatten) arr := by
  have key : ∀ (b o n : Nat) (cs : List AV), (∀ i x, cs[i]? = some x → ∃ y, w.cell? ⟨b, o + i, none⟩ = some y ∧ VRel w I.ro (some I) x y) → cs.length = n →
      ∃ arr, (loadCells ⟨b, o, none⟩ n).run P w = .ok arr w ∧ CRel w I.ro (some I) cs arr := by
    intro b o n cs hc hn
    have hk : ∀ j, j < n → w.cell? ((⟨b, o, none⟩ : Addr).add j) = some ((w.cell? ⟨b, o + j, none⟩).getD undef) := by
      intro j hj
      obtain ⟨y, hy, _⟩ := hc j cs[j] (by simp [show j < cs.length by omega])
      rw [add_none, hy]; rfl
    refine ⟨_, run_loadCells (P := P) w ⟨b, o, none⟩ n (fun j => (w.cell? ⟨b, o + j, none⟩).getD undef) hk, by simp [hn], fun i x hx => ?_⟩
    have hi : i < n := by have := (List.getElem?_eq_some_iff.1 hx).1; omega
    obtain ⟨y, hy, hxy⟩ := hc i x hx
    have : ((List.range n).map fun j => (w.cell? ⟨b, o + j, none⟩).getD undef).toArray.getD i undef = y := by
      simp [Array.getD_eq_getD_getElem?, hi, hy]
    rw [this]; exact hxy
  have zero : ∀ p : Option Addr, ∀ c, ∃ arr, (Builtin.firstCells sz 0 (.slice p 0 c)).run P w = .ok arr w ∧ CRel w I.ro (some I) [] arr := by
    intro p c
    refine ⟨#[], ?_, rfl, fun i x hx => by simp at hx⟩
    cases p <;> simp [Builtin.firstCells, loadCells, loadCellsFrom]
  unfold AS.elems at he
  split at he
  · simp only [Option.some.injEq] at he; subst he
    cases hx
    rename_i p
    refine ⟨p, 0, 0, rfl, rfl, Nat.le_refl _, by simp, fun m hm => ?_⟩
    obtain rfl : m = 0 := by omega
    simpa using zero p 0
  · rename_i es2
    split at he
    · rename_i hall
      simp only [Option.some.injEq] at he; subst he
      cases hx with
      | @vs _ _ p len c sz' b off us hl hcap ha hsz hc hv =>
        have hszz : ∀ e ∈ es2, e.length = sz := by
          intro e hm; have := List.all_eq_true.1 hall e hm; simpa using this
        refine ⟨p, len, c, rfl, hl, hcap, hszz, fun m hm => ?_⟩
        by_cases hne : es2 = []
        · subst hne
          simp at hl; subst hl
          obtain rfl : m = 0 := by omega
          simpa using zero p c
        · rw [ha hne]
          have htake : ∀ e ∈ es2.take m, e.length = sz := fun e hm => hszz e (List.mem_of_mem_take hm)
          have hk : ∀ i x, ((es2.take m).flatten)[i]? = some x → ∃ y, w.cell? ⟨b, off + i, none⟩ = some y ∧ VRel w I.ro (some I) x y := by
            intro i x hx
            obtain ⟨q, j, e, h1, h2, h3⟩ := flatten_get sz _ htake i x hx
            have hq : q < m := by have := (List.getElem?_eq_some_iff.1 h1).1; simp at this; omega
            rw [List.getElem?_take_of_lt hq] at h1
            have : sz' = sz := by rw [← hsz e (List.mem_of_getElem? h1), hszz e (List.mem_of_getElem? h1)]
            subst this
            refine ⟨us q j, ?_, (hv q j e x h1 h2).pure⟩
            rw [h3, ← Nat.add_assoc]
            exact (hc q j e x h1 h2).2
          obtain ⟨arr, k1, k2⟩ := key b off (m * sz) _ hk (by rw [flatten_len sz _ htake]; simp; rw [Nat.min_eq_left (by omega)])
          exact ⟨arr, by simpa [Builtin.firstCells] using k1, k2⟩
    · cases he
  · rename_i id st sz' off len cap
    split at he
    · rename_i st' cs hl
      split at he
      · rename_i hcond
        obtain ⟨rfl, rfl, hle⟩ := hcond
        simp only [Option.some.injEq] at he; subst he
        cases hx with
        | @ms _ _ _ _ _ _ _ p c hlc hp hcap hcl =>
          have hcl0 : (cs.drop off).length = cs.length - off := by simp
          refine ⟨p, len, c, rfl, (chunk_length _ _ _).symm, hlc, chunk_size _ _ _ (by rw [hcl0]; omega), fun m hm => ?_⟩
          by_cases hc0 : c = 0
          · subst hc0
            obtain rfl : len = 0 := by omega
            obtain rfl : m = 0 := by omega
            simpa using zero p 0
          · obtain ⟨J, hJ, c1, c2, c3⟩ := hcl
            injection hJ with hJ; subst hJ
            obtain ⟨_, l, hl', hol⟩ := h.hrel.heap _ _ _ hl
            cases l with
            | void => exact absurd (c3 hl') hc0
            | «at» b base n =>
              obtain ⟨cc, elem, o1, o2, o3, o4⟩ := hol
              rcases c2 b base n hl' with h00 | ⟨e1, _⟩
              · exact absurd h00 hc0
              · subst e1
                have hmle : m * sz' ≤ len * sz' := Nat.mul_le_mul_right _ hm
                have hfl : ((chunk sz' len (cs.drop off)).take m).flatten = (cs.drop off).take (m * sz') := by
                  have : ∀ (n m : Nat) (l : List AV), m ≤ n → n * sz' ≤ l.length → (chunk sz' n l).take m = chunk sz' m l := by
                    intro n
                    induction n with
                    | zero => intro m l hm _; obtain rfl : m = 0 := by omega
                              rfl
                    | succ n ih =>
                      intro m l hm hl
                      rw [Nat.succ_mul] at hl
                      cases m with
                      | zero => rfl
                      | succ m => simp only [chunk, List.take_succ_cons]; rw [ih m (l.drop sz') (by omega) (by simp; omega)]
                  rw [this len m (cs.drop off) hm (by rw [hcl0]; omega), chunk_flatten sz' m (cs.drop off) (by rw [hcl0]; omega)]
                rw [hfl]
                have hk : ∀ i x, ((cs.drop off).take (m * sz'))[i]? = some x → ∃ y, w.cell? ⟨b, base + off + i, none⟩ = some y ∧ VRel w I.ro (some I) x y := by
                  intro i x hx
                  have hi : i < m * sz' := by have := (List.getElem?_eq_some_iff.1 hx).1; simp at this; omega
                  rw [List.getElem?_take_of_lt hi, List.getElem?_drop] at hx
                  have hlt : off + i < cs.length := (List.getElem?_eq_some_iff.1 hx).1
                  have hlt2 : base + (off + i) < cc.size := by omega
                  refine ⟨cc.getD (base + (off + i)) undef, ?_, o4 _ x hx⟩
                  simp [World.cell?, o1, Nat.add_assoc, hlt2, Array.getD_eq_getD_getElem?]
                obtain ⟨arr, k1, k2⟩ := key b (base + off) (m * sz') ((cs.drop off).take (m * sz')) hk (by simp; omega)
                exact ⟨arr, by simpa [Builtin.firstCells] using k1, k2⟩
      · cases he
    · cases he
  · cases he

end
end Go.Am
