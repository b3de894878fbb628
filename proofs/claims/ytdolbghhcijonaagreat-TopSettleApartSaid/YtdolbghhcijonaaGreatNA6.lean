/-
  AN ABSTRACT MACHINE FOR PROOFS, PART 6. A general base for proofs: no program is named here.
-/
import Derived.Test.YtdolbghhcijonaaGreatNA5
namespace Go.Am
open Go Go.RowKit
def fnOf (P : Program) (fn : Func) : Option FnI :=
 match fn.body with
 | some code => match zh5 P code, zff P fn.results.toList with
  | some ic, some ras => if fn.name == "runtime.NumGoroutine" then none else some ⟨fn.ntmps, ic, ras⟩
  | _, _ => none
 | none => none
def envOf (P : Program) (fuel : Nat) : Env :=
 ⟨fun f => match P.funcs[f]? with
  | some fn => fnOf P fn
  | none => none, fun _ _ => none, fun _ _ _ => none, fun _ => false, fun _ => false, fuel⟩
theorem zob {P : Program} {f : FuncId} {fn : Func} {code : Code} (hf : P.funcs[f]? = some fn) (hb : fn.body = some code) (hn : (fn.name == "runtime.NumGoroutine") = false) : Ent P f := by
 intro args w;unfold callFunc;have hp : (program : Sem Program).run P w = .ok P w := rfl;simp only [Sem.run_bind, hp, Result.andThen_ok, hf];rw [if_neg (by rw [hn]; simp), if_neg (by rw [hb]; simp)];rfl
theorem fnOf_ok {P : Program} {f : FuncId} {fn : Func} {i : FnI} (hf : P.funcs[f]? = some fn) (h : fnOf P fn = some i) :
  ∃ fn code, P.funcs[f]? = some fn /\ fn.body = some code /\ zh5 P code = some i.ic /\ fn.ntmps = i.size /\ zff P fn.results.toList = some i.res /\ Ent P f := by
 unfold fnOf at h;split at h <;> try cases h
 rename_i code hc;split at h <;> try cases h
 rename_i ic ras h1 h2;split at h <;> try cases h
 rename_i hn;exact ⟨fn, code, hf, hc, h1, rfl, h2, zob hf hc (by simpa using hn)⟩
theorem envOf_ok {P : Program} (fuel : Nat) (hm : P.follows .mixedOrders = true) : EnvOk P (envOf P fuel) := by
 refine ⟨fun f i h => ?_, fun f args v h => (by cases h), fun f args H v H' h => (by cases h), hm⟩;simp only [envOf] at h;split at h
 ·rename_i fn hf; exact fnOf_ok hf h
 ·cases h
def tabO : List (FuncId × List AV × AV) -> FuncId -> List AV -> Option AV
 | [], _, _ => none
 | (g, as, v) :: l, f, args => if Nat.beq g f then (if ztm as args then some v else tabO l f args) else tabO l f args
theorem zx6 {P : Program} : ∀ {l : List (FuncId × List AV × AV)}, (∀ x ∈ l, PF P x.1 x.2.1 x.2.2) -> ∀ {f : FuncId} {args : List AV} {v : AV}, tabO l f args = some v -> PF P f args v
 | [], _, f, args, v, h => by simp [tabO] at h
 | (g, as, u) :: l, hl, f, args, v, h => by
  have ih := fun h => zx6 (fun x hx => hl x (y0a _ hx)) (f := f) (args := args) (v := v) h;simp only [tabO] at h;split at h
  ·rename_i h1;split at h
   ·rename_i h2;simp only [y00] at h; subst h;have e1 : g = f := y14 h1;have e2 := zd1 _ _ h2;subst e1 e2;exact hl _ (y01 ..)
   ·exact ih h
  ·exact ih h
def Env.with (E : Env) (l : List (FuncId × List AV × AV)) (pure : List Nat) : Env := { E with orc := tabO l, pure := fun f => pure.any (Nat.beq f), known := fun f => pure.any (Nat.beq f) || l.any fun x => Nat.beq x.1 f }
theorem EnvOk.with {P : Program} {E : Env} (h : EnvOk P E) {l : List (FuncId × List AV × AV)} {pure : List Nat} (hl : ∀ x ∈ l, PF P x.1 x.2.1 x.2.2) : EnvOk P (E.with l pure) :=
 ⟨h.fn, fun _ _ _ e => zx6 hl e, h.sum, h.mix⟩
noncomputable section
end
noncomputable section
abbrev Tab := List (FuncId × List (List AV × AV))
def TabOk (P : Program) (T : Tab) : Prop := ∀ x ∈ T, ∀ y ∈ x.2, PF P x.1 y.1 y.2
theorem TabOk.nil {P : Program} : TabOk P [] := fun x hx => by cases hx
theorem TabOk.append {P : Program} {T U : Tab} (h : TabOk P T) (k : TabOk P U) : TabOk P (T ++ U) := fun x hx => by
 rcases y1n.1 hx with hx | hx
 ·exact h x hx
 ·exact k x hx
end
end Go.Am
