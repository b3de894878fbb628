/-
  TABLES OF KNOWN CALLS, BY FUNCTION. A general base for proofs: no program is named here.
-/
import Derived.Test.YtclefndccgmolaaDoorAmQuick
namespace Go.Am
open Go Go.RowKit
noncomputable section

abbrev Tab := List (FuncId × List (List AV × AV))

def findF (f : FuncId) (T : Tab) : Option (List (List AV × AV)) :=
  List.rec (motive := fun _ => Option (List (List AV × AV))) none (fun x _ ih => Bool.rec (motive := fun _ => Option (List (List AV × AV))) ih (some x.2) (Nat.beq x.1 f)) T

def findA (args : List AV) (l : List (List AV × AV)) : Option AV :=
  List.rec (motive := fun _ => Option AV) none (fun x _ ih => Bool.rec (motive := fun _ => Option AV) ih (some x.2) (beqL x.1 args)) l

def findT (T : Tab) (f : FuncId) (args : List AV) : Option AV := Option.rec (motive := fun _ => Option AV) none (fun l => findA args l) (findF f T)

def TabOk (P : Program) (T : Tab) : Prop := ∀ x ∈ T, ∀ y ∈ x.2, PF P x.1 y.1 y.2

theorem findF_mem {f : FuncId} : ∀ {T : Tab} {l : List (List AV × AV)}, findF f T = some l → (f, l) ∈ T
  | [], l, h => by cases h
  | x :: T, l, h => by
    have e : findF f (x :: T) = Bool.rec (motive := fun _ => Option (List (List AV × AV))) (findF f T) (some x.2) (Nat.beq x.1 f) := rfl
    rw [e] at h
    cases hb : Nat.beq x.1 f with
    | true =>
      rw [hb] at h
      injection h with h
      obtain ⟨a, b⟩ := x
      have : a = f := Nat.eq_of_beq_eq_true hb
      subst this
      subst h
      exact List.mem_cons_self ..
    | false => rw [hb] at h; exact List.mem_cons_of_mem _ (findF_mem h)

theorem findA_mem {args : List AV} {v : AV} : ∀ {l : List (List AV × AV)}, findA args l = some v → (args, v) ∈ l
  | [], h => by cases h
  | x :: l, h => by
    have e : findA args (x :: l) = Bool.rec (motive := fun _ => Option AV) (findA args l) (some x.2) (beqL x.1 args) := rfl
    rw [e] at h
    cases hb : beqL x.1 args with
    | true =>
      rw [hb] at h
      injection h with h
      obtain ⟨a, b⟩ := x
      have : a = args := eq_of_beqL _ _ hb
      subst this
      subst h
      exact List.mem_cons_self ..
    | false => rw [hb] at h; exact List.mem_cons_of_mem _ (findA_mem h)

theorem findT_ok {P : Program} {T : Tab} (hT : TabOk P T) {f : FuncId} {args : List AV} {v : AV} (h : findT T f args = some v) : PF P f args v := by
  unfold findT at h
  cases hl : findF f T with
  | none => rw [hl] at h; cases h
  | some l => rw [hl] at h; exact hT _ (findF_mem hl) _ (findA_mem h)

def Env.tab (E : Env) (T : Tab) (pure : List Nat) : Env := { E with orc := findT T, pure := fun f => pure.any (Nat.beq f), known := fun f => pure.any (Nat.beq f) || T.any fun x => Nat.beq x.1 f }

theorem EnvOk.tab {P : Program} {E : Env} (h : EnvOk P E) {T : Tab} (hT : TabOk P T) {pure : List Nat} : EnvOk P (E.tab T pure) :=
  ⟨h.fn, fun _ _ _ e => findT_ok hT e, h.sum, h.mix⟩

def allRun (P : Program) (E : Env) (n : Nat) (T : Tab) : Bool := T.all fun x => x.2.all fun y => callOkK P E n x.1 y.1 y.2

/-- A table whose calls the kernel has run. -/
theorem TabOk.of_run {P : Program} {E : Env} (hE : EnvOk P E) {n : Nat} {T : Tab} (h : allRun P E n T = true) : TabOk P T :=
  fun x hx y hy => PF_of_run hE (List.all_eq_true.1 (List.all_eq_true.1 h x hx) y hy)

theorem TabOk.nil {P : Program} : TabOk P [] := fun x hx => by cases hx

theorem TabOk.append {P : Program} {T U : Tab} (h : TabOk P T) (k : TabOk P U) : TabOk P (T ++ U) := fun x hx => by
  rcases List.mem_append.1 hx with hx | hx
  · exact h x hx
  · exact k x hx

end
end Go.Am
