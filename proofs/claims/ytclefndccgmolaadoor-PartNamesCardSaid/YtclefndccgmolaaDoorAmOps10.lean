/-
  STORES, APPENDS, COPIES. A general base for proofs: no program is named here.
-/
import Derived.Test.YtclefndccgmolaaDoorAmOps9
namespace Go.Am
open Go Go.RowKit

theorem setRow_below {w : World} {N0 b : Nat} (c : Array Value) (hb : N0 ≤ b) : Below N0 w (w.setRow b c) :=
  ⟨rfl, rfl, rfl, by simp, fun k hk => setRow_other w b k c (by omega)⟩

theorem chunk_flatten (sz : Nat) : ∀ (n : Nat) (l : List AV), n * sz ≤ l.length → (chunk sz n l).flatten = l.take (n * sz)
  | 0, l, _ => by simp [chunk]
  | n + 1, l, h => by
    rw [Nat.succ_mul] at h
    simp only [chunk, List.flatten_cons]
    rw [chunk_flatten sz n (l.drop sz) (by simp; omega), Nat.succ_mul, Nat.add_comm, List.take_add]

theorem chunk_length (sz : Nat) : ∀ (n : Nat) (l : List AV), (chunk sz n l).length = n
  | 0, _ => rfl
  | n + 1, l => by simp [chunk, chunk_length sz n]

theorem chunk_size (sz : Nat) : ∀ (n : Nat) (l : List AV), n * sz ≤ l.length → ∀ e ∈ chunk sz n l, e.length = sz
  | 0, _, _, e, he => by simp [chunk] at he
  | n + 1, l, h, e, he => by
    rw [Nat.succ_mul] at h
    simp only [chunk, List.mem_cons] at he
    rcases he with rfl | he
    · simp; omega
    · exact chunk_size sz n (l.drop sz) (by simp; omega) e he

theorem flatten_len (sz : Nat) : ∀ (es : List (List AV)), (∀ e ∈ es, e.length = sz) → es.flatten.length = es.length * sz
  | [], _ => by simp
  | e :: es, h => by
    simp only [List.flatten_cons, List.length_append, List.length_cons]
    rw [flatten_len sz es (fun x hx => h x (List.mem_cons_of_mem _ hx)), h e (List.mem_cons_self ..), Nat.succ_mul]; omega

theorem flatten_get (sz : Nat) : ∀ (es : List (List AV)), (∀ e ∈ es, e.length = sz) → ∀ k x, es.flatten[k]? = some x → ∃ i j e, es[i]? = some e ∧ e[j]? = some x ∧ k = i * sz + j
  | [], _, k, x, h => by simp at h
  | e :: es, hs, k, x, h => by
    simp only [List.flatten_cons] at h
    have he := hs e (List.mem_cons_self ..)
    by_cases hk : k < e.length
    · rw [List.getElem?_append_left hk] at h
      exact ⟨0, k, e, rfl, h, by omega⟩
    · rw [List.getElem?_append_right (by omega)] at h
      obtain ⟨i, j, e', h1, h2, h3⟩ := flatten_get sz es (fun x hx => hs x (List.mem_cons_of_mem _ hx)) _ x h
      exact ⟨i + 1, j, e', by simpa using h1, h2, by rw [Nat.succ_mul]; omega⟩

section
variable {P : Program} {w0 w : World} {N0 : Nat} {I : LI} {S S' : AS} {a : Act} {io : IOp} {v : AV}

/-- A block of the call's own is written. -/
theorem write_rel (h : Rel w0 N0 I S a w) {id st b base n : Nat} {cs cs' : List AV} {c c' : Array Value} {elem : TypeId} (hl : look id S.heap = some (st, .cells cs)) (hloc : I.loc id st = some (.at b base n))
    (hb : w.heap[b]? = some (.cells c elem (0, 0))) (hcs : c'.size = n) (hle : base + cs'.length ≤ n) (hc : ∀ (i : Nat) (x : AV), cs'[i]? = some x → VRel w I.ro (some I) x (c'.getD (base + i) undef)) :
    Rel w0 N0 I { S with heap := putl id (st, .cells cs') S.heap } a (w.setRow b c') ∧ Evo I w I (w.setRow b c') := by
  have key := h.hrel.write (w' := w.setRow b c') (o' := .cells cs') (setRow_below c' (h.hrel.fresh _ _ _ _ _ hloc)) hloc hl (fun b' hb' => setRow_other w b b' c' hb')
    (fun e => ⟨c', elem, setRow_heap w b c c' elem (0, 0) hb, hcs, hle, fun i x hx => (hc i x hx).evo e⟩)
  exact ⟨⟨h.clk, h.tmps.evo key.2, key.1, h.marks.write (fun s e => by rw [hl] at e; cases e)⟩, key.2⟩

/-- What a block of the call's own is. -/
theorem cells_at (h : Rel w0 N0 I S a w) {id st : Nat} {cs : List AV} (hl : look id S.heap = some (st, .cells cs)) {b base n : Nat} (hloc : I.loc id st = some (.at b base n)) :
    ∃ c elem, w.heap[b]? = some (.cells c elem (0, 0)) ∧ c.size = n ∧ base + cs.length ≤ n ∧ ∀ (i : Nat) (x : AV), cs[i]? = some x → VRel w I.ro (some I) x (c.getD (base + i) undef) := by
  obtain ⟨_, l, hl', hol⟩ := h.hrel.heap _ _ _ hl
  rw [hloc] at hl'; injection hl' with hl'; subst hl'
  exact hol

theorem s_store (h : Rel w0 N0 I S a w) {t : TypeId} {size : Nat} {x y : Operand} {ax ay : Arg} (hs : sizeOf? P t = some size) (hx : comOperand x = some ax) (hy : comOperand y = some ay) (hr : iop S (.store size ax ay) = some (v, S')) :
    ∃ w' I', (Instr.storeAt t (a.eval x) (a.eval y)).run P w = .ok () w' ∧ v = .tup [] ∧ Rel w0 N0 I' S' a w' ∧ Evo I w I' w' := by
  simp only [iop] at hr
  split at hr
  · rename_i p yv hp hyv
    split at hr
    · rename_i vs hvs
      split at hr
      · rename_i hsz
        simp only [Option.map_eq_some_iff, Prod.mk.injEq] at hr
        obtain ⟨S1, hS1, rfl, rfl⟩ := hr
        have hX := h.arg hx hp
        obtain ⟨v1, v2⟩ := cells_rel (h.arg hy hyv) hvs
        unfold AS.store at hS1
        split at hS1
        · rename_i id st off
          split at hS1
          · rename_i st' cs hl
            split at hS1
            · rename_i hcond
              obtain ⟨rfl, hle, hcell⟩ := hcond
              simp only [Option.some.injEq] at hS1; subst hS1
              generalize a.eval x = xu at hX
              cases hX with
              | mptr hk hcl =>
                obtain ⟨J, hJ, c1, c0, c2⟩ := hcl
                injection hJ with hJ; subst hJ
                obtain ⟨_, l, hl', hol⟩ := h.hrel.heap _ _ _ hl
                cases l with
                | void => exact absurd hl' c0
                | «at» b base n =>
                  obtain ⟨c, elem, o1, o2, o3, o4⟩ := hol
                  rw [c2 _ _ _ hl']
                  have hone : ∀ u ∈ (a.eval y).cells.toList, u.oneCell' = true := by
                    intro u hu
                    obtain ⟨i, hi, rfl⟩ := List.mem_iff_getElem.1 hu
                    have hi' : i < vs.length := by rw [← v1]; simpa using hi
                    have hv := v2 i vs[i] (by simp [hi'])
                    have : (a.eval y).cells.getD i undef = (a.eval y).cells.toList[i] := by
                      have hi2 : i < (a.eval y).cells.size := by simpa using hi
                      simp [Array.getD_eq_getD_getElem?, hi2]
                    rw [this] at hv
                    exact oneCell_of_rel hv (List.all_eq_true.1 hcell _ (List.getElem_mem hi'))
                  have hsl : (a.eval y).cells.toList.length = vs.length := by simp [v1]
                  have rs := run_storeCells_at (P := P) b (base + off) elem (a.eval y).cells.toList 0 c w o1 (by omega) hone
                  simp only [Nat.add_zero] at rs
                  have hgd : ∀ i x, (setAt off cs vs)[i]? = some x → VRel w I.ro (some I) x ((c.toList.take (base + off) ++ (a.eval y).cells.toList ++ c.toList.drop (base + off + (a.eval y).cells.toList.length)).toArray.getD (base + i) undef) := by
                    intro i x hx
                    rw [setAt_get off cs vs hle] at hx
                    have hg := setAt_get (base + off) c.toList (a.eval y).cells.toList (by simp [v1]; omega) (base + i)
                    rw [hsl] at hg
                    have e : (c.toList.take (base + off) ++ (a.eval y).cells.toList ++ c.toList.drop (base + off + (a.eval y).cells.toList.length)).toArray.getD (base + i) undef = ((setAt (base + off) c.toList (a.eval y).cells.toList)[base + i]?).getD undef := by
                      simp [setAt, Array.getD_eq_getD_getElem?]
                    rw [e, hg]
                    by_cases h1 : i < off
                    · rw [if_pos h1] at hx
                      rw [if_pos (by omega)]
                      have := o4 i x hx
                      simpa [Array.getD_eq_getD_getElem?] using this
                    · rw [if_neg h1] at hx
                      rw [if_neg (by omega)]
                      by_cases h2 : i < off + vs.length
                      · rw [if_pos h2] at hx
                        rw [if_pos (by omega)]
                        have := v2 _ x hx
                        rw [show base + i - (base + off) = i - off from by omega]
                        simpa [Array.getD_eq_getD_getElem?] using this
                      · rw [if_neg h2] at hx
                        rw [if_neg (by omega)]
                        have := o4 i x hx
                        simpa [Array.getD_eq_getD_getElem?] using this
                  obtain ⟨k1, k2⟩ := write_rel h hl hl' o1 (c' := (c.toList.take (base + off) ++ (a.eval y).cells.toList ++ c.toList.drop (base + off + (a.eval y).cells.toList.length)).toArray)
                    (by simp [v1]; omega) (by rw [setAt_length off cs vs hle]; exact o3) hgd
                  refine ⟨_, I, ?_, rfl, k1, k2⟩
                  have hne : ¬ ((a.eval y).cells.size ≠ size) := by rw [v1, hsz]; simp
                  simp only [Instr.storeAt, Instr.sureAddr, Sem.run_bind, Sem.run_pure, Result.andThen_ok, storeVar, rn_size hs, hne, if_false]
                  exact rs
            · cases hS1
          · cases hS1
        · cases hS1
      · cases hr
    · cases hr
  · cases hr

end
end Go.Am
