/-
  THE OPERATIONS ON ABSTRACT STATES ARE SOUND: the machine's operation does what 'iop' says. A general base for proofs: no program is named here.
-/
import Derived.Test.YtclefndccgmolaaDoorAmRun
import Derived.WalkKit
namespace Go.Am
open Go Go.RowKit

theorem mapM_get {α β : Type} {f : α → Option β} : ∀ {l : List α} {r : List β}, l.mapM f = some r → r.length = l.length ∧ ∀ (i : Nat) (x : β), r[i]? = some x → ∃ y, l[i]? = some y ∧ f y = some x
  | [], r, h => by simp at h; subst h; simp
  | a :: l, r, h => by
    rw [List.mapM_cons] at h
    cases hf : f a with
    | none => simp [hf] at h
    | some b =>
      cases hl : l.mapM f with
      | none => simp [hf, hl] at h
      | some bs =>
        simp [hf, hl] at h
        subst h
        obtain ⟨h1, h2⟩ := mapM_get hl
        refine ⟨by simp [h1], fun i x hx => ?_⟩
        cases i with
        | zero => simp at hx; subst hx; exact ⟨a, by simp, hf⟩
        | succ i => simpa using h2 i x (by simpa using hx)

theorem ofConst_rel {w : World} {ro : Nat → Prop} {L : Option LI} : ∀ (d : Nat) (u : Value) (v : AV), ofConst d u = some v → VRel w ro L v u := by
  intro d
  induction d with
  | zero => intro u v h; simp [ofConst] at h
  | succ d ih =>
    intro u v h
    have key : ∀ (cs : Array Value) (r : List AV), cs.toList.mapM (ofConst d) = some r → cs.size = r.length ∧ ∀ (i : Nat) (x : AV), r[i]? = some x → VRel w ro L x (cs.getD i undef) := by
      intro cs r hr
      obtain ⟨h1, h2⟩ := mapM_get hr
      refine ⟨by simp [h1], fun i x hx => ?_⟩
      obtain ⟨y, hy, hf⟩ := h2 i x hx
      have : cs.getD i undef = y := by
        rw [Array.getElem?_toList] at hy
        simp [Array.getD_eq_getD_getElem?, hy]
      rw [this]
      exact ih y x hf
    cases u with
    | bool b => simp [ofConst] at h; subst h; exact .bool
    | int k n => simp [ofConst] at h; subst h; exact .int
    | string s => simp [ofConst] at h; subst h; exact .str
    | pointer p => cases p <;> simp [ofConst] at h; subst h; exact .nilp
    | slice p l c =>
      cases l <;> cases c <;> simp [ofConst] at h
      subst h; exact .nils
    | nilFunc => simp [ofConst] at h; subst h; exact .nilf
    | agg cs =>
      simp only [ofConst, Option.map_eq_some_iff] at h
      obtain ⟨r, hr, rfl⟩ := h
      exact .agg (key cs r hr).1 (key cs r hr).2
    | tuple cs =>
      simp only [ofConst, Option.map_eq_some_iff] at h
      obtain ⟨r, hr, rfl⟩ := h
      exact .tup (key cs r hr).1 (key cs r hr).2
    | _ => simp [ofConst] at h

section
variable {P : Program} {w0 w : World} {N0 : Nat} {I : LI} {S S' : AS} {a : Act}

theorem Rel.arg (h : Rel w0 N0 I S a w) {x : Operand} {ar : Arg} {v : AV} (hc : comOperand x = some ar) (hv : S.arg ar = some v) : VRel w I.ro (some I) v (a.eval x) := by
  cases x with
  | tmp t =>
    simp only [comOperand, Option.some.injEq] at hc
    subst hc
    exact h.tmps.2 t v hv
  | const u =>
    simp only [comOperand, Option.map_eq_some_iff] at hc
    obtain ⟨x, hx, rfl⟩ := hc
    simp only [AS.arg, Option.some.injEq] at hv
    subst hv
    exact ofConst_rel 4 u x hx
  | global g =>
    simp only [comOperand, Option.map_eq_some_iff] at hc
    obtain ⟨cs, hg, rfl⟩ := hc
    simp only [AS.arg, Option.some.injEq] at hv
    subst hv
    exact (h.hrel.glob _ (globC_mem hg)).pure
  | func f =>
    simp only [comOperand, Option.some.injEq] at hc
    subst hc
    simp only [AS.arg, Option.some.injEq] at hv
    subst hv
    exact .fn rfl rfl (by simp) (by simp)

theorem args_get : ∀ {l : List Arg} {vs : List AV}, S.args l = some vs → vs.length = l.length ∧ ∀ (i : Nat) (x : AV), vs[i]? = some x → ∃ y, l[i]? = some y ∧ S.arg y = some x
  | [], vs, h => by simp [AS.args] at h; subst h; simp
  | y :: l, vs, h => by
    simp only [AS.args] at h
    cases h1 : S.arg y with
    | none => simp [h1] at h
    | some v =>
      cases h2 : S.args l with
      | none => simp [h1, h2] at h
      | some r =>
        simp [h1, h2] at h
        subst h
        obtain ⟨a1, a2⟩ := args_get h2
        refine ⟨by simp [a1], fun i x hx => ?_⟩
        cases i with
        | zero => simp at hx; subst hx; exact ⟨y, by simp, h1⟩
        | succ i => simpa using a2 i x (by simpa using hx)

theorem Rel.args (h : Rel w0 N0 I S a w) {xs : Array Operand} {as : List Arg} {vs : List AV} (hc : xs.toList.mapM comOperand = some as) (hv : S.args as = some vs) :
    (xs.map a.eval).size = vs.length ∧ ∀ (i : Nat) (v : AV), vs[i]? = some v → VRel w I.ro (some I) v ((xs.map a.eval).getD i undef) := by
  obtain ⟨a1, a2⟩ := mapM_get hc
  obtain ⟨b1, b2⟩ := args_get hv
  refine ⟨by simp [a1, b1], fun i v hi => ?_⟩
  obtain ⟨y, hy, hyv⟩ := b2 i v hi
  obtain ⟨x, hx, hxy⟩ := a2 i y hy
  have : (xs.map a.eval).getD i undef = a.eval x := by
    rw [Array.getElem?_toList] at hx
    simp [Array.getD_eq_getD_getElem?, hx]
  rw [this]
  exact h.arg hxy hyv

/-- What an operation that ends in a value must show. -/
def Fin (w0 : World) (N0 : Nat) (I : LI) (a : Act) (w : World) (r : Result Next) (v : AV) (S' : AS) : Prop :=
  ∃ u w' I', (r = .ok (.value u) w' ∨ (r = .ok .skip w' ∧ u = undef)) ∧ VRel w' I'.ro (some I') v u ∧ Rel w0 N0 I' S' a w' ∧ Evo I w I' w'

theorem Fin.same (h : Rel w0 N0 I S a w) {r : Result Next} {v : AV} {u : Value} (hr : r = .ok (.value u) w) (hv : VRel w I.ro (some I) v u) : Fin w0 N0 I a w r v S :=
  ⟨u, w, I, .inl hr, hv, h, Evo.refl I w⟩

theorem run_v {s : Sem Value} {u : Value} {w' : World} (h : s.run P w = .ok u w') : (do pure (.value (← s)) : Sem Next).run P w = .ok (.value u) w' := by
  simp [h]

theorem exec_v {ρ : Operand → Value} {o : Oper} {s : Sem Value} (he : execOp ρ o = (do pure (.value (← s)))) {u : Value} {w' : World} (h : s.run P w = .ok u w') : (execOp ρ o).run P w = .ok (.value u) w' := by
  rw [he]; exact run_v h

end
end Go.Am
