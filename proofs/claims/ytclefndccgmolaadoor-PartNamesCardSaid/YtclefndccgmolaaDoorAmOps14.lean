/-
  ALL OPERATIONS TOGETHER. A general base for proofs: no program is named here.
-/
import Derived.Test.YtclefndccgmolaaDoorAmMap
namespace Go.Am
open Go Go.RowKit

section
variable {P : Program} {w0 w : World} {N0 : Nat} {I : LI} {S S' : AS} {a : Act} {io : IOp} {v : AV}

theorem pure_fin (h : Rel w0 N0 I S a w) {s : Sem Value} (hr : ∃ u, s.run P w = .ok u w ∧ VRel w I.ro (some I) v u ∧ S' = S) : Fin w0 N0 I a w ((do pure (.value (← s)) : Sem Next).run P w) v S' := by
  obtain ⟨u, h1, h2, rfl⟩ := hr
  exact Fin.same h (run_v h1) h2

theorem heap_fin {s : Sem Value} (hr : ∃ u w' I', s.run P w = .ok u w' ∧ VRel w' I'.ro (some I') v u ∧ Rel w0 N0 I' S' a w' ∧ Evo I w I' w') : Fin w0 N0 I a w ((do pure (.value (← s)) : Sem Next).run P w) v S' := by
  obtain ⟨u, w', I', h1, h2, h3, h4⟩ := hr
  exact ⟨u, w', I', .inl (run_v h1), h2, h3, h4⟩

/-- AN OPERATION THAT IS NO CALL OF A FUNCTION DOES WHAT 'iop' SAYS. -/
theorem iop_sound (h : Rel w0 N0 I S a w) (o : Oper) (hc : comOp P o.op = some io) (hr : iop S io = some (v, S')) : Fin w0 N0 I a w ((execOp a.eval o).run P w) v S' := by
  obtain ⟨dst, op, ty, pos, af, gd⟩ := o
  simp only at hc
  cases op with
  | move x =>
    simp only [comOp, Option.map_eq_some_iff] at hc
    obtain ⟨ar, har, rfl⟩ := hc
    simp only [iop, Option.map_eq_some_iff, Prod.mk.injEq] at hr
    obtain ⟨y, hy, rfl, rfl⟩ := hr
    exact Fin.same h rfl (h.arg har hy)
  | assign x =>
    simp only [comOp, Option.map_eq_some_iff] at hc
    obtain ⟨ar, har, rfl⟩ := hc
    simp only [iop, Option.map_eq_some_iff, Prod.mk.injEq] at hr
    obtain ⟨y, hy, rfl, rfl⟩ := hr
    exact Fin.same h rfl (h.arg har hy)
  | pick c x y =>
    simp only [comOp] at hc
    split at hc
    · rename_i cc cx cy h1 h2 h3
      simp only [Option.some.injEq] at hc; subst hc
      obtain ⟨u, e1, e2, rfl⟩ := s_pick (P := P) h h1 h2 h3 hr
      exact Fin.same h e1 e2
    · cases hc
  | alloc t =>
    simp only [comOp, Option.map_eq_some_iff] at hc
    obtain ⟨z, hz, rfl⟩ := hc
    exact heap_fin (s_alloc h hz hr)
  | box t x =>
    simp only [comOp, Option.map_eq_some_iff] at hc
    obtain ⟨ar, har, rfl⟩ := hc
    exact heap_fin (s_box h har hr)
  | build t parts => exact pure_fin h (s_build h hc hr)
  | buildSlice t len parts =>
    simp only [comOp] at hc
    split at hc
    · rename_i e hu
      split at hc
      · rename_i s z hs hz
        split at hc
        · cases hc
        · rename_i hcond
          simp only [Option.map_eq_some_iff] at hc
          obtain ⟨ps, hps, rfl⟩ := hc
          exact heap_fin (s_bslice h hu hs hz (fun e0 => hcond (.inl e0)) (by omega) (by omega) hps hr)
      · cases hc
    · cases hc
  | load t x =>
    simp only [comOp] at hc
    split at hc
    · rename_i g ar hg har
      simp only [Option.some.injEq] at hc; subst hc
      exact pure_fin h (s_load h hg har hr)
    · cases hc
  | store t x y =>
    simp only [comOp] at hc
    split at hc
    · rename_i s ax ay hs hx hy
      simp only [Option.some.injEq] at hc; subst hc
      obtain ⟨w', I', e1, rfl, e3, e4⟩ := s_store h hs hx hy hr
      refine ⟨undef, w', I', .inr ⟨?_, rfl⟩, .tup rfl (by simp), e3, e4⟩
      simp [execOp, e1]
    · cases hc
  | nilCheck x =>
    simp only [comOp, Option.map_eq_some_iff] at hc
    obtain ⟨ar, har, rfl⟩ := hc
    simp only [iop] at hr
    split at hr <;> simp only [Option.some.injEq, Prod.mk.injEq, reduceCtorEq] at hr
    · obtain ⟨rfl, rfl⟩ := hr
      have hv := h.arg har (by assumption)
      have hv' := hv
      generalize he : a.eval x = u at hv
      cases hv
      exact Fin.same h (u := a.eval x) (by simp [execOp, he]) hv'
    · obtain ⟨rfl, rfl⟩ := hr
      have hv := h.arg har (by assumption)
      have hv' := hv
      generalize he : a.eval x = u at hv
      obtain ⟨p, rfl⟩ : ∃ p, u = .pointer (some p) := by cases hv with | mptr hk _ => exact hk
      exact Fin.same h (u := a.eval x) (by simp [execOp, he]) hv'
    · obtain ⟨rfl, rfl⟩ := hr
      have hv := h.arg har (by assumption)
      have hv' := hv
      generalize he : a.eval x = u at hv
      cases hv
      exact Fin.same h (u := a.eval x) (by simp [execOp, he]) hv'
  | binOp op t x y t2 =>
    simp only [comOp] at hc
    split at hc
    · rename_i ax ay hu hx hy
      split at hc <;> simp only [Option.some.injEq, reduceCtorEq] at hc <;> subst hc <;> simp only [iop] at hr <;> split at hr <;> simp only [Option.some.injEq, Prod.mk.injEq, reduceCtorEq] at hr <;> obtain ⟨rfl, rfl⟩ := hr
      all_goals
        rename_i p q hp hq
        have h1 := h.arg hx hp
        have h2 := h.arg hy hq
        generalize he1 : a.eval x = u1 at h1
        generalize he2 : a.eval y = u2 at h2
        cases h1; cases h2
      · refine Fin.same h (u := .bool (p == q)) ?_ .bool
        simp [execOp, he1, he2, run_eqGuard_other (P := P) (w := w), Go.binOp, Op.equal, Op.maxDepth, run_equalIn_bool' (P := P) w 9999 t p q hu]
      · refine Fin.same h (u := .bool (!(p == q))) ?_ .bool
        simp [execOp, he1, he2, run_eqGuard_other (P := P) (w := w), Go.binOp, Op.equal, Op.maxDepth, run_equalIn_bool' (P := P) w 9999 t p q hu]
    · rename_i k ax ay hu hx hy
      simp only [Option.some.injEq] at hc; subst hc
      simp only [iop] at hr
      split at hr
      · rename_i p q hp hq
        simp only [Option.map_eq_some_iff, Prod.mk.injEq] at hr
        obtain ⟨r, hr, rfl, rfl⟩ := hr
        obtain ⟨u, e1, e2, e3, e4⟩ := s_bin (P := P) (t := t) (h.arg hx hp) (h.arg hy hq) hr
        exact Fin.same h (by simp [execOp, run_eqGuard_other (P := P) (w := w) op t x y _ _ e3 e4, e1]) e2
      · cases hr
    · rename_i ax ay hu hx hy
      simp only [Option.some.injEq] at hc; subst hc
      simp only [iop] at hr
      split at hr
      · rename_i p q hp hq
        simp only [Option.map_eq_some_iff, Prod.mk.injEq] at hr
        obtain ⟨r, hr, rfl, rfl⟩ := hr
        obtain ⟨u, e1, e2, e3, e4⟩ := s_bin (P := P) (t := t) (h.arg hx hp) (h.arg hy hq) hr
        exact Fin.same h (by simp [execOp, run_eqGuard_other (P := P) (w := w) op t x y _ _ e3 e4, e1]) e2
      · cases hr
    · rename_i fs ax ay hu hx hy
      split at hc
      · cases hc
      · rename_i hno
        simp only [Bool.or_eq_true, not_or, Bool.not_eq_true] at hno
        split at hc <;> simp only [Option.some.injEq, reduceCtorEq] at hc <;> subst hc <;> simp only [iop] at hr
        all_goals
          rename_i l hl
          split at hr
          · rename_i xs ys hp hq
            split at hr
            · rename_i r hrr
              simp only [Option.some.injEq, Prod.mk.injEq] at hr
              obtain ⟨rfl, rfl⟩ := hr
              have h1 := h.arg hx hp
              have h2 := h.arg hy hq
              generalize he1 : a.eval x = u1 at h1
              generalize he2 : a.eval y = u2 at h2
              cases h1 with
              | agg a1 a2 =>
                cases h2 with
                | agg b1 b2 =>
                  obtain ⟨k1, k2⟩ := s_eqs (P := P) hu hno.1 hl ⟨a1, a2⟩ ⟨b1, b2⟩ hrr
                  first
                  | exact Fin.same h (u := .bool r) (by simp [execOp, he1, he2, run_eqGuard_agg (P := P) w _ t x y _ _ hno.2, k1]) .bool
                  | exact Fin.same h (u := .bool !r) (by simp [execOp, he1, he2, run_eqGuard_agg (P := P) w _ t x y _ _ hno.2, k2]) .bool
            · cases hr
          · cases hr
    · cases hc
  | unOp op t x =>
    simp only [comOp, Option.map_eq_some_iff] at hc
    obtain ⟨ar, har, rfl⟩ := hc
    simp only [iop] at hr
    split at hr
    · rename_i xv hxv
      simp only [Option.map_eq_some_iff, Prod.mk.injEq] at hr
      obtain ⟨r, hr, rfl, rfl⟩ := hr
      obtain ⟨u, e1, e2⟩ := s_un (P := P) (h.arg har hxv) hr
      exact Fin.same h (run_v e1) e2
    · cases hr
  | convert src dst x =>
    simp only [comOp] at hc
    split at hc
    · rename_i k1 k2 h1 h2
      simp only [Option.map_eq_some_iff] at hc
      obtain ⟨ar, har, rfl⟩ := hc
      simp only [iop] at hr
      split at hr <;> try cases hr
      rename_i xv hxv
      simp only [Option.map_eq_some_iff, Prod.mk.injEq] at hr
      obtain ⟨r, hr, rfl, rfl⟩ := hr
      have hv := h.arg har hxv
      generalize he : a.eval x = u at hv
      unfold convA at hr
      split at hr <;> simp only [Option.some.injEq, reduceCtorEq] at hr <;> subst hr
      · cases hv
        refine Fin.same h (run_v (u := .int k2 _) ?_) .int
        simp [convert, rn_underlying h1, rn_underlying h2, he, Conv.intToInt]
      · cases hv
        rename_i n hn
        refine Fin.same h (run_v (u := .int k2 (k2.wrap n)) ?_) (.ints (List.mem_map_of_mem hn))
        simp [convert, rn_underlying h1, rn_underlying h2, he, Conv.intToInt]
    · cases hc
  | makeFunc fn first cap =>
    cases fn <;> simp only [comOp, reduceCtorEq] at hc
    rename_i f
    split at hc
    · rename_i af ac hf hcc
      simp only [Option.some.injEq] at hc; subst hc
      simp only [iop] at hr
      split at hr
      · rename_i fv cv hfv hcv
        simp only [Option.some.injEq, Prod.mk.injEq] at hr
        obtain ⟨rfl, rfl⟩ := hr
        obtain ⟨a1, a2⟩ := h.args hf hfv
        obtain ⟨b1, b2⟩ := h.args hcc hcv
        exact Fin.same h (run_v (u := .func (.func f) (first.map a.eval) (cap.map a.eval)) rfl) (.fn a1 b1 a2 b2)
      · cases hr
    · cases hc
  | makeSlice t l c =>
    simp only [comOp] at hc
    split at hc
    · rename_i e hu
      split at hc
      · rename_i s z b al ac hs hz hb hl hcc
        split at hc
        · cases hc
        · rename_i hcond
          simp only [Option.some.injEq] at hc; subst hc
          simp only [iop] at hr
          split at hr
          · rename_i k1 l' k2 c' hlv hcv
            split at hr
            · rename_i hb4
              obtain ⟨b0, b1, b2, b3⟩ := hb4
              simp only [Option.some.injEq, Prod.mk.injEq] at hr
              obtain ⟨rfl, rfl⟩ := hr
              have h1 := h.arg hl hlv
              have h2 := h.arg hcc hcv
              generalize he1 : a.eval l = u1 at h1
              generalize he2 : a.eval c = u2 at h2
              cases h1; cases h2
              obtain ⟨inf, u, hi, hzz, hcr⟩ := zero_crel hz
              have hby : inf.bytes = b := by unfold bytesOf? at hb; rw [hi] at hb; simpa using hb
              have rc := range_crel (hcr w I.ro (some I)) (by omega) c'.toNat
              have hzl : z.length = s := by omega
              rw [hzl] at rc
              obtain ⟨k1', k2'⟩ := new_rel h (elem := e) rc.2 (by rw [rc.1]; exact Nat.le_refl _)
              have wl : IntKind.i64.wrap l' = l' := by simp [IntKind.wrap, IntKind.bits, IntKind.signed]; omega
              have wc : IntKind.i64.wrap c' = c' := by simp [IntKind.wrap, IntKind.bits, IntKind.signed]; omega
              have hmul : (b : Int) * c' ≤ 16777216 * 1048576 := Int.mul_le_mul (by omega) b2 (by omega) (by omega)
              have n1 : ¬ (((decide (c' < 0) || decide ((b : Int) * c' > 2 ^ 48)) || decide (l' < 0) || decide (l' > c')) = true) := by
                simp; omega
              refine heap_fin ⟨.slice (some ⟨w.heap.size, 0, none⟩) l'.toNat c'.toNat, _, _, ?_, ?_, k1', k2'⟩
              · have hn0 : (c'.toNat * s = 0) → (Array.range (c'.toNat * s)) = #[] := fun e => by rw [e]; rfl
                simp only [he1, he2]
                by_cases hz0 : c'.toNat * s = 0
                · simp only [Instr.makeSlice, Sem.run_bind, rn_underlying hu, Result.andThen_ok, asInt, asIntOf, Sem.run_pure, typeInfo, run_program, hi, hby, wl, wc, n1, Bool.false_eq_true, if_false, run_askRoom, rn_size hs, hz0, if_true, newRow, run_newObj]
                  rw [hz0] at hn0
                  simp [hn0 rfl]
                · simp only [Instr.makeSlice, Sem.run_bind, rn_underlying hu, Result.andThen_ok, asInt, asIntOf, Sem.run_pure, typeInfo, run_program, hi, hby, wl, wc, n1, Bool.false_eq_true, if_false, run_askRoom, rn_size hs, hz0, zeroValue, hzz, newRow, run_newObj]
                  rfl
              · rw [← h.clk]
                exact ms_new (by omega) (fun k hk => by injection hk) (fun e => by cases e)
            · cases hr
          · cases hr
      · cases hc
    · cases hc
  | slice t x lo hi mx =>
    simp only [comOp] at hc
    split at hc
    · rename_i ax al ah hx hl hh
      split at hc
      · rename_i e hu
        split at hc
        · cases hc
        · rename_i hmx
          split at hc
          · rename_i s am hs hm
            simp only [Option.some.injEq] at hc; subst hc
            exact pure_fin h (s_slsl h hu hs hx hl hh hm (fun e => by cases hi with | none => exact absurd ⟨e, rfl⟩ hmx | some _ => rfl) hr)
          · cases hc
      · rename_i n e hu
        split at hc
        · cases hc
        · rename_i hmx
          simp only [Option.map_eq_some_iff] at hc
          obtain ⟨s, hs, rfl⟩ := hc
          obtain rfl : mx = none := by cases mx <;> simp at hmx ⊢
          exact pure_fin h (s_slarr h hu hs hx hl hh hr)
      · rename_i hu
        split at hc
        · cases hc
        · rename_i hmx
          simp only [Option.some.injEq] at hc; subst hc
          obtain rfl : mx = none := by cases mx <;> simp at hmx ⊢
          exact pure_fin h (s_slstr h hu hx hl hh hr)
      · cases hc
    · cases hc
  | fieldAddr t x i =>
    simp only [comOp] at hc
    split at hc
    · rename_i fs hu
      split at hc
      · rename_i f hf
        split at hc
        · rename_i s ax hs hx
          split at hc
          · cases hc
          · rename_i h0
            simp only [Option.some.injEq] at hc; subst hc
            exact pure_fin h (s_faddr h hu hf hs h0 hx hr)
        · cases hc
      · cases hc
    · cases hc
  | field t x i =>
    simp only [comOp] at hc
    split at hc
    · rename_i fs hu
      split at hc
      · rename_i f hf
        split at hc
        · rename_i g ax hg hx
          simp only [Option.some.injEq] at hc; subst hc
          exact pure_fin h (s_field h hu hf hg hx hr)
        · cases hc
      · cases hc
    · cases hc
  | indexAddr t x i =>
    simp only [comOp] at hc
    split at hc
    · rename_i e hu
      split at hc
      · rename_i s ax ai hs hx hi
        simp only [Option.some.injEq] at hc; subst hc
        exact pure_fin h (s_idxs h hu hs hx hi hr)
      · cases hc
    · rename_i n e hu
      split at hc
      · rename_i s ax ai hs hx hi
        simp only [Option.some.injEq] at hc; subst hc
        exact pure_fin h (s_idxarr h hu hs hx hi hr)
      · cases hc
    · cases hc
  | index t x i =>
    simp only [comOp] at hc
    split at hc
    · rename_i n e hu
      split at hc
      · rename_i s g ax ai hs hg hx hi
        simp only [Option.some.injEq] at hc; subst hc
        exact pure_fin h (s_idxagg h hu hs hg hx hi hr)
      · cases hc
    · rename_i hu
      split at hc
      · rename_i ax ai hx hi
        simp only [Option.some.injEq] at hc; subst hc
        exact pure_fin h (s_idxstr h hu hx hi hr)
      · cases hc
    · cases hc
  | makeMap t r =>
    cases r with
    | some r => simp [comOp] at hc
    | none =>
      simp only [comOp, Option.some.injEq] at hc; subst hc
      simp only [iop, Option.some.injEq, Prod.mk.injEq] at hr
      obtain ⟨rfl, rfl⟩ := hr
      exact heap_fin (s_mkmap h t)
  | mapUpdate t m k x =>
    simp only [comOp] at hc
    split at hc <;> try cases hc
    rename_i kt et ht
    split at hc <;> try cases hc
    rename_i kd am ak ax hk ham hak hax
    simp only [iop] at hr
    split at hr <;> try cases hr
    rename_i mv kv xv hmv hkv hxv
    simp only [Option.map_eq_some_iff, Prod.mk.injEq] at hr
    obtain ⟨S1, hr, rfl, rfl⟩ := hr
    obtain ⟨w', I', e1, e3, e4⟩ := s_mapset (P := P) h ht hk (h.arg ham hmv) (h.arg hak hkv) (h.arg hax hxv) hr
    refine ⟨undef, w', I', .inr ⟨?_, rfl⟩, .tup rfl (by simp), e3, e4⟩
    simp [execOp, e1]
  | lookup t m k ok =>
    simp only [comOp] at hc
    split at hc <;> try cases hc
    rename_i kt et ht
    split at hc <;> try cases hc
    rename_i kd z am ak hk hz ham hak
    simp only [iop] at hr
    split at hr <;> try cases hr
    rename_i mv kv hmv hkv
    simp only [Option.map_eq_some_iff, Prod.mk.injEq] at hr
    obtain ⟨r, hr, rfl, rfl⟩ := hr
    unfold AS.mapget at hr
    split at hr <;> try cases hr
    rename_i id st
    split at hr <;> try cases hr
    rename_i st' es hl
    split at hr <;> try cases hr
    rename_i hst; subst hst
    simp only [Option.map_eq_some_iff] at hr
    obtain ⟨r0, hr, rfl⟩ := hr
    obtain ⟨u, e1, e2⟩ := s_mapget (P := P) (ok := ok) h ht hk hz hl (h.arg ham hmv) (h.arg hak hkv) hr
    exact pure_fin h ⟨u, e1, e2, rfl⟩
  | extract x i =>
    simp only [comOp, Option.map_eq_some_iff] at hc
    obtain ⟨ar, har, rfl⟩ := hc
    simp only [iop] at hr
    split at hr
    · rename_i vs hvs
      simp only [Option.map_eq_some_iff, Prod.mk.injEq] at hr
      obtain ⟨c, hcc, rfl, rfl⟩ := hr
      have hv := h.arg har hvs
      generalize he : a.eval x = u at hv
      cases hv with
      | @tup _ _ us h1 h2 =>
        have e1 : us[i]? = some (us.getD i undef) := by
          have : i < us.size := by rw [h1]; exact (List.getElem?_eq_some_iff.1 hcc).1
          simp [Array.getD_eq_getD_getElem?, this]
        exact Fin.same h (run_v (u := us.getD i undef) (by rw [he]; simp only [Instr.extract]; rw [e1]; rfl)) (h2 _ _ hcc)
    · cases hr
  | call c =>
    obtain ⟨callee, args, argTypes⟩ := c
    cases callee with
    | value f =>
      simp only [comOp] at hc
      split at hc
      · simp only [Option.some.injEq] at hc; subst hc; simp [iop] at hr
      · cases hc
    | invoke r m => simp [comOp] at hc
    | builtin b =>
      have bi : ∀ {s : Sem Value}, (∀ cs, builtin b argTypes ty cs (args.map a.eval) = (do pure (.value (← s)))) → Fin w0 N0 I a w ((do pure (.value (← s)) : Sem Next).run P w) v S' →
          Fin w0 N0 I a w ((execOp a.eval ⟨dst, .call ⟨.builtin b, args, argTypes⟩, ty, pos, af, gd⟩).run P w) v S' := by
        intro s e hf
        have : (execOp a.eval ⟨dst, .call ⟨.builtin b, args, argTypes⟩, ty, pos, af, gd⟩).run P w = (do pure (.value (← s)) : Sem Next).run P w := by
          simp only [execOp, resolve, Sem.run_bind, Sem.run_pure, Result.andThen_ok, invoke, e]
        rw [this]; exact hf
      have getA : ∀ (i : Nat) (x : Operand), args[i]? = some x → (args.map a.eval)[i]? = some (a.eval x) := by
        intro i x hx; simp [hx]
      cases b <;> simp only [comOp, reduceCtorEq] at hc
      case len =>
        refine bi (s := Builtin.len_ argTypes ty (args.map a.eval)) (fun cs => rfl) ?_
        split at hc
        · rename_i t x ht hx
          have hg := getA 0 x hx
          split at hc
          · rename_i hu
            simp only [Option.map_eq_some_iff] at hc
            obtain ⟨ar, har, rfl⟩ := hc
            simp only [iop] at hr
            split at hr
            · rename_i xv hxv
              simp only [Option.map_eq_some_iff, Prod.mk.injEq] at hr
              obtain ⟨r, hr, rfl, rfl⟩ := hr
              have hv := h.arg har hxv
              generalize a.eval x = u at hv hg
              unfold lenA at hr
              split at hr
              · simp only [if_true, Option.some.injEq] at hr; subst hr
                cases hv
                rename_i no lo hi t0 h0 h1 h2
                refine Fin.same h (run_v (u := .int .i64 t0.data.toList.length) ?_) (.rng (by omega) (by omega))
                simp only [Builtin.len_, ht, hg, Sem.run_bind, rn_underlying hu, Result.andThen_ok]
                rfl
              · simp only [Option.map_eq_some_iff] at hr
                obtain ⟨n, hn, rfl⟩ := hr
                refine Fin.same h (run_v (u := .int .i64 n) ?_) .int
                unfold lenOf at hn
                cases hv <;> simp only [reduceCtorEq, Option.some.injEq] at hn
                subst hn
                simp only [Builtin.len_, ht, hg, Sem.run_bind, rn_underlying hu, Result.andThen_ok]
                rfl
            · cases hr
          · rename_i e hu
            simp only [Option.map_eq_some_iff] at hc
            obtain ⟨ar, har, rfl⟩ := hc
            simp only [iop] at hr
            split at hr
            · rename_i xv hxv
              simp only [Option.map_eq_some_iff, Prod.mk.injEq] at hr
              obtain ⟨r, hr, rfl, rfl⟩ := hr
              obtain ⟨n, hn, rfl⟩ := lenA_false hr
              have hv := h.arg har hxv
              generalize a.eval x = u at hv hg
              refine Fin.same h (run_v (u := .int .i64 n) ?_) .int
              unfold lenOf at hn
              cases hv <;> simp only [reduceCtorEq, Option.some.injEq] at hn
              case nils =>
                subst hn
                simp only [Builtin.len_, ht, hg, Sem.run_bind, rn_underlying hu, Result.andThen_ok]
                rfl
              case vs us hl hcap ha hsz hcc hvv =>
                subst hn
                subst hl
                simp only [Builtin.len_, ht, hg, Sem.run_bind, rn_underlying hu, Result.andThen_ok]
                rfl
              case ms =>
                subst hn
                simp only [Builtin.len_, ht, hg, Sem.run_bind, rn_underlying hu, Result.andThen_ok]
                rfl
            · cases hr
          · rename_i n e hu
            simp only [Option.some.injEq] at hc; subst hc
            simp only [iop, Option.some.injEq, Prod.mk.injEq] at hr
            obtain ⟨rfl, rfl⟩ := hr
            refine Fin.same h (run_v (u := .int .i64 n) ?_) .int
            simp only [Builtin.len_, ht, hg, Sem.run_bind, rn_underlying hu, Result.andThen_ok]
            rfl
          · cases hc
        · cases hc
      case append =>
        refine bi (s := Builtin.append_ argTypes ty (args.map a.eval)) (fun cs => rfl) ?_
        split at hc
        · rename_i t t2 x y ht ht2 hx hy
          split at hc
          · rename_i e e2 hu hu2
            split at hc
            · rename_i sz z b ax ay hs hz hb hax hay
              split at hc
              · cases hc
              · rename_i hcond
                simp only [Option.some.injEq] at hc; subst hc
                simp only [iop] at hr
                split at hr
                · rename_i sv xv hsv hxv
                  split at hr
                  · rename_i es hes
                    have ha : AppT P argTypes e sz b z := ⟨⟨t, ht, hu⟩, ⟨t2, e2, ht2, hu2⟩, hs, hz, hb, by omega, by omega, by omega⟩
                    exact heap_fin (s_append h ha (getA 0 x hx) (getA 1 y hy) (h.arg hax hsv) (h.arg hay hxv) hes hr)
                  · cases hr
                · cases hr
            · cases hc
          · rename_i e k2 hu hu2
            split at hc
            · rename_i sz z b ax ay hs hz hb hax hay
              split at hc
              · cases hc
              · rename_i hcond
                simp only [Option.some.injEq] at hc; subst hc
                simp only [iop] at hr
                split at hr
                · rename_i sv k3 n hsv hxv
                  have hy' := h.arg hay hxv
                  generalize hg : a.eval y = yu at hy'
                  cases hy'
                  exact heap_fin (s_appendz h ⟨t, ht, hu⟩ ⟨t2, k2, ht2, hu2⟩ hs hz hb (by omega) (by omega) (getA 0 x hx) (by rw [getA 1 y hy, hg]) (h.arg hax hsv) hr)
                · cases hr
            · cases hc
          · cases hc
        · cases hc
      case cap =>
        refine bi (s := Builtin.cap_ argTypes ty (args.map a.eval)) (fun cs => rfl) ?_
        split at hc
        · rename_i t x ht hx
          have hg := getA 0 x hx
          split at hc
          · rename_i e hu
            simp only [Option.map_eq_some_iff] at hc
            obtain ⟨ar, har, rfl⟩ := hc
            simp only [iop] at hr
            split at hr
            · rename_i xv hxv
              split at hr
              case h_2 => cases hr
              rename_i n hn
              simp only [Option.some.injEq, Prod.mk.injEq] at hr
              obtain ⟨rfl, rfl⟩ := hr
              have hv := h.arg har hxv
              generalize a.eval x = u at hv hg
              refine Fin.same h (run_v (u := .int .i64 n) ?_) .int
              unfold capOf at hn
              split at hn <;> simp only [Option.some.injEq, reduceCtorEq] at hn
              · subst hn
                cases hv
                simp only [Builtin.cap_, ht, hg, Sem.run_bind, rn_underlying hu, Result.andThen_ok]
                rfl
              · subst hn
                cases hv
                rename_i hcap _
                rw [hcap _ rfl] at hg
                simp only [Builtin.cap_, ht, hg, Sem.run_bind, rn_underlying hu, Result.andThen_ok]
                rfl
            · cases hr
          · cases hc
        · cases hc
      case copy =>
        refine bi (s := Builtin.copy_ argTypes ty (args.map a.eval)) (fun cs => rfl) ?_
        split at hc
        · rename_i t x y ht hx hy
          split at hc
          · rename_i e hu
            split at hc
            · rename_i sz ax ay hs hax hay
              simp only [Option.some.injEq] at hc; subst hc
              exact heap_fin (s_copy h hu hs ht (getA 0 x hx) (getA 1 y hy) hax hay hr)
            · cases hc
          · cases hc
        · cases hc
      case min =>
        refine bi (s := Builtin.min_ argTypes ty (args.map a.eval)) (fun cs => rfl) ?_
        simp only [Option.map_eq_some_iff] at hc
        obtain ⟨as, has, rfl⟩ := hc
        exact pure_fin h (s_minmax (P := P) (mx := false) (ts := argTypes) (ty := ty) h has hr)
      case max =>
        refine bi (s := Builtin.max_ argTypes ty (args.map a.eval)) (fun cs => rfl) ?_
        simp only [Option.map_eq_some_iff] at hc
        obtain ⟨as, has, rfl⟩ := hc
        exact pure_fin h (s_minmax (P := P) (mx := true) (ts := argTypes) (ty := ty) h has hr)
  | _ => simp [comOp] at hc

end
end Go.Am
