/-
  THE PURE OPERATIONS ARE SOUND. A general base for proofs: no program is named here.
-/
import Derived.Test.YtclefndccgmolaaDoorAmOps
namespace Go.Am
open Go Go.RowKit

section
variable {P : Program} {w0 w : World} {N0 : Nat} {I : LI} {S S' : AS} {a : Act}

theorem rn_underlying {t : TypeId} {d : TypeDesc} (h : P.underlying t = some d) (w : World) : (underlying t).run P w = .ok d w := run_underlying h w

theorem rn_size {t : TypeId} {n : Nat} (h : sizeOf? P t = some n) (w : World) : (sizeOf t).run P w = .ok n w := by
  simp only [sizeOf?, Option.map_eq_some_iff] at h
  obtain ⟨i, hi, rfl⟩ := h
  simp [sizeOf, typeInfo, hi]

theorem rn_agg {t : TypeId} {r : Option Nat} (h : aggOf P t = some r) (w : World) : (isAgg t).run P w = .ok r.isSome w ∧ (∀ n, r = some n → sizeOf? P t = some n) := by
  unfold aggOf at h
  cases hu : P.underlying t with
  | none => simp [hu] at h
  | some d =>
    simp only [hu] at h
    have hr := run_underlying hu w
    cases d <;> simp only [Option.map_eq_some_iff, Option.some.injEq] at h <;>
      first
      | (obtain ⟨n, hn, rfl⟩ := h; exact ⟨by simp [isAgg, hr], fun m hm => by injection hm with hm; rw [← hm]; exact hn⟩)
      | (subst h; exact ⟨by simp [isAgg, hr], fun m hm => by cases hm⟩)

theorem rn_zero {t : TypeId} {z : List AV} (h : zeroOf P t = some z) (w : World) : ∃ u, (zeroValue t).run P w = .ok u w ∧ u.cells.size = z.length ∧
    ∀ (ro : Nat → Prop) (L : Option LI) (w : World) (i : Nat) (x : AV), z[i]? = some x → VRel w ro L x (u.cells.getD i undef) := by
  unfold zeroOf at h
  cases hi : P.info? t with
  | none => simp [hi] at h
  | some inf =>
    simp only [hi] at h
    cases hz : inf.zero with
    | none => simp [hz] at h
    | some u =>
      simp only [hz] at h
      obtain ⟨h1, h2⟩ := mapM_get h
      refine ⟨u, by simp [zeroValue, typeInfo, hi, hz], by simp [h1], fun ro L w i x hx => ?_⟩
      obtain ⟨y, hy, hf⟩ := h2 i x hx
      have : u.cells.getD i undef = y := by
        rw [Array.getElem?_toList] at hy
        simp [Array.getD_eq_getD_getElem?, hy]
      rw [this]
      exact ofConst_rel 4 y x hf

theorem rn_part {e : TypeId} {r : Option Nat} (h : aggOf P e = some r) (cs : Array Value) (off : Nat) (w : World) :
    (∀ n, r = some n → (part e cs off).run P w = .ok (.agg (cs.extract off (off + n))) w) ∧ (∀ v, r = none → cs[off]? = some v → (part e cs off).run P w = .ok v w) := by
  obtain ⟨h1, h2⟩ := rn_agg h w
  constructor
  · rintro n rfl
    simp [part, h1, rn_size (h2 n rfl) w]
  · rintro v rfl hv
    simp [part, h1, hv]

/-- The cells of a value. -/
theorem cells_rel {w : World} {ro : Nat → Prop} {L : Option LI} {v : AV} {u : Value} (h : VRel w ro L v u) {cs : List AV} (hc : v.cells? = some cs) :
    u.cells.size = cs.length ∧ ∀ (i : Nat) (x : AV), cs[i]? = some x → VRel w ro L x (u.cells.getD i undef) := by
  have one : ∀ {v : AV} {u : Value}, VRel w ro L v u → u.cells = #[u] → u.cells.size = [v].length ∧ ∀ (i : Nat) (x : AV), [v][i]? = some x → VRel w ro L x (u.cells.getD i undef) := by
    intro v u hv hu
    rw [hu]
    refine ⟨rfl, fun i x hx => ?_⟩
    cases i with
    | zero => simp at hx; subst hx; exact hv
    | succ i => simp at hx
  have h0 := h
  cases h <;> simp only [AV.cells?, Option.some.injEq, reduceCtorEq] at hc <;> try subst hc
  case agg h1 h2 => exact ⟨h1, h2⟩
  case mptr hk _ => obtain ⟨p, rfl⟩ := hk; exact one h0 rfl
  case yield hk _ => obtain ⟨p, rfl⟩ := hk; exact one h0 rfl
  case mapv hk _ => obtain ⟨p, rfl⟩ := hk; exact one h0 rfl
  all_goals exact one h0 rfl

/-- A value that fills a cell may be stored. -/
theorem oneCell_of_rel {w : World} {ro : Nat → Prop} {L : Option LI} {v : AV} {u : Value} (h : VRel w ro L v u) (hc : v.isCell = true) : u.oneCell' = true := by
  cases h <;> simp [AV.isCell] at hc <;> try rfl
  case mptr hk _ => obtain ⟨p, rfl⟩ := hk; rfl
  case yield hk _ => obtain ⟨p, rfl⟩ := hk; rfl
  case mapv hk _ => obtain ⟨p, rfl⟩ := hk; rfl

end
end Go.Am
