/-
  COPY; ALL OPERATIONS TOGETHER. A general base for proofs: no program is named here.
-/
import Derived.Test.YtclefndccgmolaaDoorAmOps12
namespace Go.Am
open Go Go.RowKit

section
variable {P : Program} {w0 w : World} {N0 : Nat} {I : LI} {S S' : AS} {a : Act} {io : IOp} {v : AV}

theorem setAt_nil {α : Type} (i : Nat) (cs : List α) : setAt i cs [] = cs := by simp [setAt]

theorem same_rel (h : Rel w0 N0 I S a w) {id st : Nat} {cs : List AV} (hl : look id S.heap = some (st, .cells cs)) : Rel w0 N0 I { S with heap := putl id (st, .cells cs) S.heap } a w := by
  have e : ∀ i, look i (putl id (st, AObj.cells cs) S.heap) = look i S.heap := by
    intro i; rw [look_putl]; split
    · rename_i hi; subst hi; exact hl.symm
    · rfl
  exact ⟨h.clk, h.tmps, h.hrel.congr e, h.marks.congr e⟩

theorem s_copy (h : Rel w0 N0 I S a w) {t e : TypeId} {sz : Nat} {x y : Operand} {ax ay : Arg} (hu : P.underlying t = some (.slice e)) (hs : sizeOf? P e = some sz) {ts : Array TypeId} (hts : ts[0]? = some t) {ty : TypeId} {args : Array Value}
    (h0 : args[0]? = some (a.eval x)) (h1 : args[1]? = some (a.eval y)) (hx : comOperand x = some ax) (hy : comOperand y = some ay) (hr : iop S (.copy sz ax ay) = some (v, S')) :
    ∃ u w' I', (Builtin.copy_ ts ty args).run P w = .ok u w' ∧ VRel w' I'.ro (some I') v u ∧ Rel w0 N0 I' S' a w' ∧ Evo I w I' w' := by
  simp only [iop] at hr
  split at hr
  · rename_i id st sz' off len cap sv hdv hsv
    split at hr
    · rename_i es st' cs hes hl
      split at hr
      · rename_i hcond
        obtain ⟨rfl, rfl, hle, hcell⟩ := hcond
        simp only [Option.some.injEq, Prod.mk.injEq] at hr
        obtain ⟨rfl, rfl⟩ := hr
        have hX := h.arg hx hdv
        have hY := h.arg hy hsv
        generalize a.eval x = xu at hX h0
        generalize a.eval y = yu at hY h1
        obtain ⟨p2, n2, c2, rfl, hn2, hc2, hsz, hfc⟩ := elems_rel (P := P) h hY hes
        cases hX with
        | @ms _ _ _ _ _ _ _ p c hlc hp hcap hcl =>
          obtain ⟨J, hJ, c1, cc2, c3⟩ := hcl
          injection hJ with hJ; subst hJ
          obtain ⟨arr, k1, k2⟩ := hfc (min n2 len) (Nat.min_le_left _ _)
          have hmin : es.take (min n2 len) = es.take len := by
            rw [hn2]; rcases Nat.le_total es.length len with g | g
            · rw [Nat.min_eq_left g, List.take_of_length_le g, List.take_of_length_le (Nat.le_refl _)]
            · rw [Nat.min_eq_right g]
          rw [hmin] at k2
          have hfl : ((es.take len).flatten).length = min n2 len * sz' := by
            rw [← hmin, flatten_len sz' _ (fun e he => hsz e (List.mem_of_mem_take he))]; simp [hn2]
          have run : ∀ w', (match p with | some q => (storeCells q arr.toList).run P w = .ok () w' | none => w' = w) → (Builtin.copy_ ts ty args).run P w = .ok (goInt (min n2 len : Nat)) w' := by
            intro w' hw
            have k1' : (Builtin.firstCells sz' (Nat.min n2 len) (.slice p2 n2 c2)).run P w = .ok arr w := k1
            unfold Builtin.copy_
            simp only [hts, h0, h1, Sem.run_bind, rn_underlying hu, Result.andThen_ok, Builtin.lenOf, Sem.run_pure, rn_size hs, k1']
            cases p with
            | none => simp only at hw; subst hw; simp
            | some q => simp only at hw; simp [hw]
          have hint : VRel w I.ro (some I) (.int .i64 (min es.length len : Nat)) (goInt (min n2 len : Nat)) := by rw [hn2]; exact .int
          by_cases hz : min n2 len = 0
          · have hnil : (es.take len).flatten = [] := by
              rw [← List.length_eq_zero_iff, hfl, hz, Nat.zero_mul]
            have harr : arr = #[] := Array.eq_empty_of_size_eq_zero (by rw [k2.1, hnil]; rfl)
            subst harr
            refine ⟨_, w, I, run w ?_, hint, ?_, Evo.refl I w⟩
            · cases p <;> simp [storeCells]
            · rw [hnil, setAt_nil]; exact same_rel h hl
          · have hc0 : c ≠ 0 := by omega
            obtain ⟨_, l, hl', hol⟩ := h.hrel.heap _ _ _ hl
            cases l with
            | void => exact absurd (c3 hl') hc0
            | «at» b base nn =>
              rcases cc2 b base nn hl' with h00 | ⟨e1, _⟩
              · exact absurd h00 hc0
              · subst e1
                obtain ⟨cc, elem, o1, o2, o3, o4⟩ := hol
                have hal : arr.toList.length = min n2 len * sz' := by simp [k2.1, hfl]
                have hml : min n2 len * sz' ≤ len * sz' := Nat.mul_le_mul_right _ (Nat.min_le_right _ _)
                have hsl : off + ((es.take len).flatten).length ≤ cs.length := by rw [hfl]; omega
                have hone : ∀ u ∈ arr.toList, u.oneCell' = true := by
                  intro u hu
                  obtain ⟨i, hi, rfl⟩ := List.mem_iff_getElem.1 hu
                  have hi' : i < ((es.take len).flatten).length := by rw [hfl, ← hal]; exact hi
                  have hv := k2.2 i ((es.take len).flatten)[i] (by simp)
                  have : arr.getD i undef = arr.toList[i] := by
                    have hi2 : i < arr.size := by simpa using hi
                    simp [Array.getD_eq_getD_getElem?, hi2]
                  rw [this] at hv
                  exact oneCell_of_rel hv (List.all_eq_true.1 hcell _ (List.getElem_mem hi'))
                have rs := run_storeCells_at (P := P) b (base + off) elem arr.toList 0 cc w o1 (by rw [hal]; omega) hone
                simp only [Nat.add_zero] at rs
                obtain ⟨g1, g2⟩ := write_rel h hl hl' o1 (cs' := setAt off cs (es.take len).flatten) (c' := (setAt (base + off) cc.toList arr.toList).toArray)
                  (by rw [List.size_toArray, setAt_length _ _ _ (by rw [hal]; simp; omega)]; exact o2) (by rw [setAt_length _ _ _ hsl]; exact o3) (fun i x hx => by
                    rw [setAt_get _ cs _ hsl, hfl] at hx
                    have hg := setAt_get (base + off) cc.toList arr.toList (by rw [hal]; simp; omega) (base + i)
                    have e5 : (setAt (base + off) cc.toList arr.toList).toArray.getD (base + i) undef = ((setAt (base + off) cc.toList arr.toList)[base + i]?).getD undef := by
                      simp [Array.getD_eq_getD_getElem?]
                    rw [e5, hg, hal]
                    by_cases g1 : i < off
                    · rw [if_pos g1] at hx
                      rw [if_pos (by omega)]
                      have := o4 i x hx
                      simpa [Array.getD_eq_getD_getElem?] using this
                    · rw [if_neg g1] at hx
                      rw [if_neg (by omega)]
                      by_cases g2 : i < off + min n2 len * sz'
                      · rw [if_pos g2] at hx
                        rw [if_pos (by omega)]
                        have := k2.2 _ x hx
                        rw [show base + i - (base + off) = i - off from by omega]
                        simpa [Array.getD_eq_getD_getElem?] using this
                      · rw [if_neg g2] at hx
                        rw [if_neg (by omega)]
                        have := o4 i x hx
                        simpa [Array.getD_eq_getD_getElem?] using this)
                exact ⟨_, _, I, run _ rs, hint.evo g2, g1, g2⟩
      · cases hr
    · cases hr
  · cases hr

theorem fold_minmax (mx : Bool) (k : IntKind) : ∀ (l : List AV) (us : List Value) (acc n : Int), us.length = l.length → (∀ (i : Nat) (x : AV), l[i]? = some x → ∃ u, us[i]? = some u ∧ VRel w I.ro (some I) x u) →
    l.foldlM (m := Option) (init := acc) (fun acc v => match v with
        | .int k' b => if k = k' then some (if mx then (if b > acc then b else acc) else (if b < acc then b else acc)) else none
        | _ => none) = some n →
    (us.foldlM (if mx then Builtin.max2 else Builtin.min2) (.int k acc)).run P w = .ok (.int k n) w
  | [], us, acc, n, hl, _, h => by
    obtain rfl : us = [] := by simpa using hl
    simp at h; subst h; simp
  | x :: l, us, acc, n, hl, hr, h => by
    cases us with
    | nil => simp at hl
    | cons u us =>
      obtain ⟨u', hu', hx⟩ := hr 0 x (by simp)
      simp at hu'; subst hu'
      rw [List.foldlM_cons] at h
      cases x <;> simp only [reduceCtorEq, Option.bind_eq_bind, Option.bind_none] at h
      rename_i k' b
      cases hx
      split at h
      · rename_i hk; subst hk
        simp only [Option.bind_some] at h
        have ih := fold_minmax mx k l us _ n (by simpa using hl) (fun i x hx => by simpa using hr (i + 1) x (by simpa using hx)) h
        rw [List.foldlM_cons]
        cases mx <;> simpa [Builtin.max2, Builtin.min2] using ih
      · cases h

theorem s_minmax (h : Rel w0 N0 I S a w) {mx : Bool} {xs : Array Operand} {as : List Arg} {ts : Array TypeId} {ty : TypeId} (hc : xs.toList.mapM comOperand = some as) (hr : iop S (.minmax mx as) = some (v, S')) :
    ∃ u, ((if mx then Builtin.max_ ts ty (xs.map a.eval) else Builtin.min_ ts ty (xs.map a.eval)) : Sem Value).run P w = .ok u w ∧ VRel w I.ro (some I) v u ∧ S' = S := by
  simp only [iop] at hr
  split at hr
  · rename_i k x l hargs
    simp only [Option.map_eq_some_iff, Prod.mk.injEq] at hr
    obtain ⟨n, hn, rfl, rfl⟩ := hr
    obtain ⟨r1, r2⟩ := h.args hc hargs
    have r2' : ∀ (i : Nat) (v : AV), (AV.int k x :: l)[i]? = some v → ∃ u, (xs.map a.eval).toList[i]? = some u ∧ VRel w I.ro (some I) v u := by
      intro i v hi
      have hlt : i < (xs.map a.eval).size := by rw [r1]; exact (List.getElem?_eq_some_iff.1 hi).1
      refine ⟨(xs.map a.eval).getD i undef, ?_, r2 i v hi⟩
      simp only [Array.getElem?_toList, Array.getD_eq_getD_getElem?, Array.getElem?_eq_getElem hlt, Option.getD_some]
    generalize hus : (xs.map a.eval).toList = us at r2'
    have hul : us.length = (AV.int k x :: l).length := by rw [← hus]; simpa using r1
    cases us with
    | nil => simp at hul
    | cons u us =>
      obtain ⟨u', hu', hx⟩ := r2' 0 _ rfl
      simp at hu'; subst hu'
      cases hx
      have f := fold_minmax (P := P) (w := w) (I := I) mx k l us x n (by simpa using hul) (fun i y hy => by simpa using r2' (i + 1) y (by simpa using hy)) hn
      refine ⟨.int k n, ?_, .int, rfl⟩
      cases mx
      · simp only [Bool.false_eq_true, if_false] at f ⊢
        simp only [Builtin.min_, hus]; exact f
      · simp only [if_true] at f ⊢
        simp only [Builtin.max_, hus]; exact f
  · cases hr

end
end Go.Am
