/-
  NEW MEMORY AND STORES, OPERATION BY OPERATION. A general base for proofs: no program is named here.
-/
import Derived.Test.YtclefndccgmolaaDoorAmOps8
namespace Go.Am
open Go Go.RowKit

theorem repl_length (n : Nat) (z : List AV) : (repl n z).length = n * z.length := by
  induction n with
  | zero => simp [repl]
  | succ n ih => simp [repl, ih, Nat.succ_mul, Nat.add_comm]

theorem repl_get (z : List AV) (_hz : 0 < z.length) : ∀ (n i : Nat), i < n * z.length → (repl n z)[i]? = z[i % z.length]? := by
  intro n
  induction n with
  | zero => intro i hi; simp at hi
  | succ n ih =>
    intro i hi
    simp only [repl]
    by_cases h : i < z.length
    · rw [List.getElem?_append_left h, Nat.mod_eq_of_lt h]
    · rw [List.getElem?_append_right (by omega), ih (i - z.length) (by rw [Nat.succ_mul] at hi; omega)]
      congr 1
      rw [Nat.mod_eq_sub_mod (by omega : i ≥ z.length)]

theorem range_crel {w : World} {ro : Nat → Prop} {L : Option LI} {z : List AV} {zs : Array Value} (h : CRel w ro L z zs) (hz : 0 < z.length) (n : Nat) :
    CRel w ro L (repl n z) ((Array.range (n * z.length)).map (fun i => zs[i % zs.size]!)) := by
  refine ⟨by simp [repl_length], fun i x hx => ?_⟩
  have hi : i < n * z.length := by have := (List.getElem?_eq_some_iff.1 hx).1; rwa [repl_length] at this
  rw [repl_get z hz n i hi] at hx
  have hlt : i % zs.size < zs.size := Nat.mod_lt _ (by rw [h.1]; exact hz)
  have e : ((Array.range (n * z.length)).map (fun i => zs[i % zs.size]!)).getD i undef = zs.getD (i % z.length) undef := by
    rw [h.1] at hlt
    simp [Array.getD_eq_getD_getElem?, hi, h.1, hlt]
  rw [e]
  exact h.2 _ x hx

section
variable {P : Program} {w0 w : World} {N0 : Nat} {I : LI} {S S' : AS} {a : Act} {io : IOp} {v : AV}

theorem mptr_new {w' : World} {id : Nat} {b n : Nat} : VRel w' (I.bind id (.at b 0 n)).ro (some (I.bind id (.at b 0 n))) (.mptr id I.clk 0) (.pointer (some ⟨b, 0, none⟩)) := by
  refine .mptr ⟨_, rfl⟩ ⟨_, rfl, Nat.lt_succ_self _, ?_, fun b' base n' hb => ?_⟩
  · rw [LI.bind_same]; simp
  · rw [LI.bind_same] at hb; injection hb with hb; injection hb with h1 h2 h3; subst h1 h2 h3; rfl

theorem ms_new {w' : World} {id sz : Nat} {b n len c : Nat} {cap : Option Nat} (h1 : len ≤ c) (h2 : ∀ k, cap = some k → c = k) (h3 : cap = none → c * sz = n) :
    VRel w' (I.bind id (.at b 0 n)).ro (some (I.bind id (.at b 0 n))) (.ms id I.clk sz 0 len cap) (.slice (some ⟨b, 0, none⟩) len c) := by
  refine .ms h1 (fun _ => ⟨_, rfl⟩) h2 ⟨_, rfl, Nat.lt_succ_self _, fun b' base n' hb => .inr ?_, ?_⟩
  · rw [LI.bind_same] at hb; injection hb with hb; injection hb with e1 e2 e3; subst e1 e2 e3
    exact ⟨rfl, fun e => by simpa using h3 e⟩
  · rw [LI.bind_same]; simp

theorem s_alloc (h : Rel w0 N0 I S a w) {t : TypeId} {z : List AV} (hz : zeroOf P t = some z) (hr : iop S (.alloc z) = some (v, S')) :
    ∃ u w' I', (Instr.alloc t true (.tuple #[])).run P w = .ok u w' ∧ VRel w' I'.ro (some I') v u ∧ Rel w0 N0 I' S' a w' ∧ Evo I w I' w' := by
  simp only [iop, Option.some.injEq, Prod.mk.injEq] at hr
  obtain ⟨rfl, rfl⟩ := hr
  obtain ⟨inf, u, hi, hzz, hcr⟩ := zero_crel hz
  obtain ⟨c1, c2⟩ := hcr w I.ro (some I)
  obtain ⟨k1, k2⟩ := new_rel h (elem := t) c2 (by omega)
  refine ⟨.pointer (some ⟨w.heap.size, 0, none⟩), _, _, ?_, ?_, k1, k2⟩
  · simp [Instr.alloc, zeroValue, typeInfo, hi, hzz, newVar, newRow]
  · rw [← h.clk]; exact mptr_new

theorem s_box (h : Rel w0 N0 I S a w) {t : TypeId} {x : Operand} {ax : Arg} (hx : comOperand x = some ax) (hr : iop S (.box ax) = some (v, S')) :
    ∃ u w' I', (Instr.box t (a.eval x)).run P w = .ok u w' ∧ VRel w' I'.ro (some I') v u ∧ Rel w0 N0 I' S' a w' ∧ Evo I w I' w' := by
  simp only [iop] at hr
  split at hr
  · rename_i xv hxv
    split at hr
    · rename_i cs hcs
      simp only [Option.some.injEq, Prod.mk.injEq] at hr
      obtain ⟨rfl, rfl⟩ := hr
      obtain ⟨c1, c2⟩ := cells_rel (h.arg hx hxv) hcs
      obtain ⟨k1, k2⟩ := new_rel h (elem := t) c2 (by omega)
      refine ⟨.pointer (some ⟨w.heap.size, 0, none⟩), _, _, ?_, ?_, k1, k2⟩
      · simp [Instr.box, newVar, newRow]
      · rw [← h.clk]; exact mptr_new
    · cases hr
  · cases hr

theorem s_bslice (h : Rel w0 N0 I S a w) {t e : TypeId} {s len : Nat} {z : List AV} {parts : Array (Nat × Operand)} {ps : List (Nat × Nat × Arg)} (hu : P.underlying t = some (.slice e)) (hs : sizeOf? P e = some s) (hz : zeroOf P e = some z)
    (h0 : s ≠ 0) (h1 : len * s ≤ 16777216) (h2 : z.length = s) (hp : comParts (fun i => some (i * s, s)) parts.toList = some ps) (hr : iop S (.bslice s len (repl len z) ps) = some (v, S')) :
    ∃ u w' I', (Instr.buildSlice t len (parts.map fun (i, x) => (i, a.eval x))).run P w = .ok u w' ∧ VRel w' I'.ro (some I') v u ∧ Rel w0 N0 I' S' a w' ∧ Evo I w I' w' := by
  simp only [iop] at hr
  split at hr
  · rename_i l hl
    split at hr
    · rename_i cs hcs
      simp only [Option.some.injEq, Prod.mk.injEq] at hr
      obtain ⟨rfl, rfl⟩ := hr
      obtain ⟨inf, u, hi, hzz, hcr⟩ := zero_crel hz
      have hcr0 := hcr w I.ro (some I)
      have rc := range_crel hcr0 (by omega) len
      rw [h2] at rc
      obtain ⟨us, f1, f2⟩ := fill_rel h _ parts.toList ps l _ cs _ hp hl hcs rc
      have f1' : Instr.fill (fun i => some (i * s, s)) ((Array.range (len * s)).map fun i => u.cells[i % u.cells.size]!) ((parts.map fun (i, x) => (i, a.eval x)).toList) = some us := by
        rw [← f1]; simp
      obtain ⟨k1, k2⟩ := new_rel h (elem := e) f2.2 (by rw [f2.1]; exact Nat.le_refl _)
      have hcl : cs.length = len * s := by
        rw [← f2.1]
        have : ∀ (xs : List (Nat × Value)) (c r : Array Value), Instr.fill (fun i => some (i * s, s)) c xs = some r → r.size = c.size := by
          intro xs
          induction xs with
          | nil => intro c r hh; simp [Instr.fill] at hh; rw [hh]
          | cons x xs ih =>
            intro c r hh
            simp only [Instr.fill] at hh
            split at hh
            · cases hh
            · rw [ih _ _ hh, fill_fold_size]
        rw [this _ _ _ f1']; simp
      refine ⟨.slice (some ⟨w.heap.size, 0, none⟩) len len, _, _, ?_, ?_, k1, k2⟩
      · by_cases hl0 : len = 0
        · subst hl0
          have er : Array.range (0 * s) = #[] := by rw [Nat.zero_mul]; rfl
          rw [er] at f1'
          simp only [Instr.buildSlice, Sem.run_bind, rn_underlying hu, Result.andThen_ok, rn_size hs, Nat.zero_mul, Nat.not_lt_zero, gt_iff_lt, if_false, if_true, Sem.run_pure]
          rw [Nat.zero_mul] at er
          simp only [er, Array.map_empty] at f1' ⊢
          simp only [f1', newRow, Sem.run_bind, run_newObj, Result.andThen_ok, Sem.run_pure]
          rfl
        · have n1 : ¬ (len * s = 0) := by rw [Nat.mul_eq_zero]; omega
          have n2 : ¬ (len * s > 2 ^ 24) := by omega
          simp only [Instr.buildSlice, Sem.run_bind, rn_underlying hu, Result.andThen_ok, rn_size hs, n2, if_false, Sem.run_pure, n1, zeroValue, typeInfo, run_program, hi, hzz, f1', newRow, run_newObj]
          rfl
      · rw [← h.clk]
        have : us.size = len * s := by rw [f2.1, hcl]
        exact ms_new (Nat.le_refl _) (fun k hk => by injection hk) (fun e => by cases e)
    · cases hr
  · cases hr

end
end Go.Am
