/-
  COMPONENTS of the example: the region walked, the rest run.
-/
import Derived.Test.YtoagikifehmlpaaQC0
import Derived.Test.YtoagikifehmlpaaQF5
namespace Go.Proofs.Ytoagikifehmlpaa
open Go Go.Am
theorem isOut_or {e : Exit} (h : zpj e = true) : e = .normal ∨ e = .ret := by
 cases e <;> first
  | exact .inl rfl
  | exact .inr rfl
  | cases h
theorem z_endrun {P : Program} {E : Env} {w0 : World} {N0 : Nat} (hE : EnvOk P E) (n : Nat) {fi : FnI} {ic : IC} {S : AS} {v : AV} (h : seeK v (endK fi (zgn P E (lvlK P E n) none ic S)) = true) :
  Zm P w0 N0 none ic S [] fun e S' => (e = .normal ∨ e = .ret) ∧ ∃ v0, S'.leave.res fi.res = some v0 ∧ (⟨0, .nil, S'.leave.heap, S'.leave.next, S'.leave.clk, []⟩ : AS).view VD v0 = v := by
 cases hr : zgn P E (lvlK P E n) none ic S with
 | none => rw [hr] at h; cases h
 | some r =>
  obtain ⟨e, S'⟩ := r
  rw [hr] at h
  unfold endK at h
  cases ho : zpj e with
  | false => simp only [ho, cond_false] at h; cases h
  | true =>
   simp only [ho, cond_true] at h
   rw [zkf, zmy] at hr
   refine ⟨zm3 (zqf (zna hE (zsf hE n) hr)) ?_⟩
   rintro e1 S1 ⟨rfl, rfl⟩
   refine ⟨isOut_or ho, ?_⟩
   cases hv : S1.leave.res fi.res with
   | none => rw [hv] at h; cases h
   | some v0 =>
    rw [hv] at h
    exact ⟨v0, rfl, AV.eq_of_beq _ _ h⟩
end Go.Proofs.Ytoagikifehmlpaa
