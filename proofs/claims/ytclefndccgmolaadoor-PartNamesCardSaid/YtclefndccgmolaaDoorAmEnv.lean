/-
  A PROGRAM's FUNCTIONS AS THE EVALUATOR READS THEM. A general base for proofs: no program is named here.
-/
import Derived.Test.YtclefndccgmolaaDoorAmExec4
namespace Go.Am
open Go Go.RowKit

def fnOf (P : Program) (fn : Func) : Option FnI :=
  match fn.body with
  | some code => match comC P code, comRes P fn.results.toList with
    | some ic, some ras => if fn.name == "runtime.NumGoroutine" then none else some ⟨fn.ntmps, ic, ras⟩
    | _, _ => none
  | none => none

def envOf (P : Program) (fuel : Nat) : Env :=
  ⟨fun f => match P.funcs[f]? with
    | some fn => fnOf P fn
    | none => none, fun _ _ => none, fun _ _ _ => none, fun _ => false, fun _ => false, fuel⟩

theorem ent_of {P : Program} {f : FuncId} {fn : Func} {code : Code} (hf : P.funcs[f]? = some fn) (hb : fn.body = some code) (hn : (fn.name == "runtime.NumGoroutine") = false) : Ent P f := by
  intro args w
  unfold callFunc
  have hp : (program : Sem Program).run P w = .ok P w := rfl
  simp only [Sem.run_bind, hp, Result.andThen_ok, hf]
  rw [if_neg (by rw [hn]; simp), if_neg (by rw [hb]; simp)]
  rfl

theorem fnOf_ok {P : Program} {f : FuncId} {fn : Func} {i : FnI} (hf : P.funcs[f]? = some fn) (h : fnOf P fn = some i) :
    ∃ fn code, P.funcs[f]? = some fn ∧ fn.body = some code ∧ comC P code = some i.ic ∧ fn.ntmps = i.size ∧ comRes P fn.results.toList = some i.res ∧ Ent P f := by
  unfold fnOf at h
  split at h <;> try cases h
  rename_i code hc
  split at h <;> try cases h
  rename_i ic ras h1 h2
  split at h <;> try cases h
  rename_i hn
  exact ⟨fn, code, hf, hc, h1, rfl, h2, ent_of hf hc (by simpa using hn)⟩

theorem envOf_ok {P : Program} (fuel : Nat) (hm : P.follows .mixedOrders = true) : EnvOk P (envOf P fuel) := by
  refine ⟨fun f i h => ?_, fun f args v h => (by cases h), fun f args H v H' h => (by cases h), hm⟩
  simp only [envOf] at h
  split at h
  · rename_i fn hf; exact fnOf_ok hf h
  · cases h

/-- Calls whose values are known. -/
def tabO : List (FuncId × List AV × AV) → FuncId → List AV → Option AV
  | [], _, _ => none
  | (g, as, v) :: l, f, args => if Nat.beq g f then (if beqL as args then some v else tabO l f args) else tabO l f args

theorem tabO_ok {P : Program} : ∀ {l : List (FuncId × List AV × AV)}, (∀ x ∈ l, PF P x.1 x.2.1 x.2.2) → ∀ {f : FuncId} {args : List AV} {v : AV}, tabO l f args = some v → PF P f args v
  | [], _, f, args, v, h => by simp [tabO] at h
  | (g, as, u) :: l, hl, f, args, v, h => by
    have ih := fun h => tabO_ok (fun x hx => hl x (List.mem_cons_of_mem _ hx)) (f := f) (args := args) (v := v) h
    simp only [tabO] at h
    split at h
    · rename_i h1
      split at h
      · rename_i h2
        simp only [Option.some.injEq] at h; subst h
        have e1 : g = f := Nat.eq_of_beq_eq_true h1
        have e2 := eq_of_beqL _ _ h2
        subst e1 e2
        exact hl _ (List.mem_cons_self ..)
      · exact ih h
    · exact ih h

def Env.with (E : Env) (l : List (FuncId × List AV × AV)) (pure : List Nat) : Env := { E with orc := tabO l, pure := fun f => pure.any (Nat.beq f), known := fun f => pure.any (Nat.beq f) || l.any fun x => Nat.beq x.1 f }

theorem EnvOk.with {P : Program} {E : Env} (h : EnvOk P E) {l : List (FuncId × List AV × AV)} {pure : List Nat} (hl : ∀ x ∈ l, PF P x.1 x.2.1 x.2.2) : EnvOk P (E.with l pure) :=
  ⟨h.fn, fun _ _ _ e => tabO_ok hl e, h.sum, h.mix⟩

/-- A call whose run the kernel has seen. -/
def callOk (P : Program) (E : Env) (n : Nat) (f : FuncId) (args : List AV) (v : AV) : Bool :=
  match (lvl P E n).f f args ⟨[], 0, 0⟩ with
  | some (v0, H) => AV.beq ((⟨0, .nil, H.heap, H.next, H.clk, []⟩ : AS).view VD v0) v
  | none => false

theorem PF_of_callOk {P : Program} {E : Env} (hE : EnvOk P E) {n : Nat} {f : FuncId} {args : List AV} {v : AV} (h : callOk P E n f args v = true) : PF P f args v := by
  unfold callOk at h
  split at h
  · rename_i v0 H hr
    refine PF_of_FT fun w0 N0 => ((lvl_ok hE n).1 _ _ _ _ _ hr w0 N0).mono fun v1 H1 ⟨e1, e2⟩ => ?_
    subst e1 e2
    exact AV.eq_of_beq _ _ h
  · cases h

end Go.Am
