/-
  WHAT DOES NOT READ THE HEAP GIVES THE SAME AT EVERY HEAP. A general base for proofs: no program is named here.
-/
import Derived.Test.YtclefndccgmolaaDoorAmLocal
namespace Go.Am
open Go Go.RowKit

section
variable {P : Program} {w0 w : World} {N0 : Nat} {S S' S1 : AS} {T : TM} {rd : Option (Nat × Nat)} {E : Env} {R : Rec} {io : Opr} {op : IOp} {v : AV} {H : HS}

theorem arg_H (a : Arg) : (S.withH H).arg a = S.arg a := by cases a <;> rfl
theorem args_H : ∀ l : List Arg, (S.withH H).args l = S.args l
  | [] => rfl
  | a :: l => by rw [AS.args, AS.args, arg_H, args_H l]
theorem oarg_H (a : Option Arg) : (S.withH H).oarg a = S.oarg a := by cases a <;> simp [AS.oarg, arg_H]
theorem parts_H : ∀ l : List (Nat × Nat × Arg), (S.withH H).parts l = S.parts l
  | [] => rfl
  | (o, s, a) :: l => by rw [AS.parts, AS.parts, arg_H, parts_H l]

def nilH : HS := ⟨[], 0, 0⟩

abbrev mapH (S : AS) (H : HS) (x : AV × AS) : AV × AS := (x.1, S.withH H)

theorem iop_H (hl : loudOp op = false) (hn : ∀ g a, op ≠ .load g a) (hn2 : ∀ kd z ok m k, op ≠ .mapget kd z ok m k) : iop (S.withH H) op = (iop (S.withH nilH) op).map (mapH S H) := by
  cases op <;> simp only [loudOp, Bool.true_eq_false] at hl <;> simp only [iop, arg_H, args_H, oarg_H, parts_H]
  case load g a => exact absurd rfl (hn g a)
  case mapget kd z ok m k => exact absurd rfl (hn2 kd z ok m k)
  case mov a => cases S.arg a <;> rfl
  case pick c a b =>
    split
    · rename_i t _; cases t <;> simp only [if_true, Bool.false_eq_true, if_false]
      · cases S.arg b <;> rfl
      · cases S.arg a <;> rfl
    · rfl
  case build z ps =>
    split
    · split <;> rfl
    · rfl
  case nilchk a => split <;> rfl
  case bin op x y =>
    split
    · cases binOp op _ _ <;> rfl
    · rfl
  case eqb n x y => split <;> rfl
  case eqs n fs x y =>
    split
    · split <;> rfl
    · rfl
  case un op a =>
    split
    · cases unOp op _ <;> rfl
    · rfl
  case conv k a =>
    split
    · cases convA k _ <;> rfl
    · rfl
  case mkfn f a b => split <;> rfl
  case slsl sz x lo hi mx =>
    split
    · cases slslc sz _ _ _ _ <;> rfl
    · rfl
  case slarr n sz x lo hi =>
    split
    · split
      · split <;> rfl
      · rfl
    · rfl
  case slstr x lo hi =>
    split
    · split
      · split <;> rfl
      · rfl
    · rfl
  case faddr o x =>
    split
    · split <;> rfl
    · rfl
    · rfl
  case field o g x =>
    split
    · cases g with
      | some n => simp only; split <;> rfl
      | none => simp only [Option.map_map]; rfl
    · rfl
  case idxs sz x i =>
    split
    · split
      · split
        · split <;> rfl
        · rfl
      · rfl
    · split <;> rfl
    · rfl
  case idxarr n sz x i =>
    split
    · split <;> rfl
    · split <;> rfl
    · rfl
  case idxagg n sz g x i =>
    split
    · split
      · split
        · rfl
        · simp only [Option.map_map]; rfl
      · rfl
    · rfl
  case idxstr x i =>
    split
    · split
      · split <;> rfl
      · rfl
    · rfl
  case extract x i =>
    split
    · simp only [Option.map_map]; rfl
    · rfl
  case len b a =>
    split
    · cases lenA b _ <;> rfl
    · rfl
  case lenc n => rfl
  case capo a =>
    split
    · split <;> rfl
    · rfl
  case minmax mx l =>
    split
    · simp only [Option.map_map]; rfl
    · rfl
  case bad => rfl

theorem iop_load_H {g : Option Nat} {a : Arg} (h : iop (S.withH nilH) (.load g a) = some (v, S1)) : iop (S.withH H) (.load g a) = some (v, S.withH H) := by
  simp only [iop, arg_H] at h ⊢
  cases hp : S.arg a with
  | none => rw [hp] at h; cases h
  | some p =>
    rw [hp] at h
    cases p <;> try (simp only [AS.deref, reduceCtorEq] at h)
    case vptr cs =>
      simp only [AS.deref]
      cases g with
      | some n =>
        simp only at h ⊢
        split at h
        · rename_i hc; simp only [Option.some.injEq, Prod.mk.injEq] at h; rw [if_pos hc]; simp only [h.1]
        · cases h
      | none =>
        simp only at h ⊢
        split at h
        · simp only [Option.some.injEq, Prod.mk.injEq] at h; simp only [h.1]
        · cases h
    case mptr id st off => exact absurd h (by rw [show (S.withH nilH).heap = [] from rfl]; simp [look_nil])

theorem iop_E (hl : loudOp op = false) (h : iop (S.withH nilH) op = some (v, S1)) (H : HS) : ∃ S2, iop (S.withH H) op = some (v, S2) := by
  by_cases hn : ∃ g a, op = .load g a
  · obtain ⟨g, a, rfl⟩ := hn
    exact ⟨_, iop_load_H h⟩
  · by_cases hn2 : ∃ kd z ok m k, op = .mapget kd z ok m k
    · obtain ⟨kd, z, ok, m, k, rfl⟩ := hn2
      exfalso
      simp only [iop, arg_H] at h
      split at h <;> try cases h
      rename_i mv kv _ _
      have : (S.withH nilH).mapget kd z ok mv kv = none := by cases mv <;> rfl
      rw [this] at h; cases h
    · rw [iop_H hl (fun g a e => hn ⟨g, a, e⟩) (fun kd z ok m k e => hn2 ⟨kd, z, ok, m, k, e⟩), h]
      exact ⟨_, rfl⟩

theorem view_noL {S S' : AS} {d : Nat} (ih : ∀ v, hasM v = false → S.view d v = S'.view d v) : ∀ l : List AV, hasM.hasML l = false → l.map (S.view d) = l.map (S'.view d)
  | [], _ => rfl
  | v :: l, h => by
    simp only [hasM.hasML, Bool.or_eq_false_iff] at h
    simp only [List.map_cons, ih v h.1, view_noL ih l h.2]

theorem view_noM {S S' : AS} : ∀ (d : Nat) (v : AV), hasM v = false → S.view d v = S'.view d v
  | 0, v, _ => rfl
  | d + 1, v, h => by
    have ih := view_noL (S := S) (S' := S') (d := d) (fun v => view_noM d v)
    cases v <;> simp only [hasM, Bool.true_eq_false, Bool.or_eq_false_iff] at h <;> simp only [AS.view]
    · rename_i f a b; rw [ih a h.1, ih b h.2]
    · rename_i cs; rw [ih cs h]
    · rename_i cs; rw [ih cs h]

/-- A step that does not look at the heap. -/
def stepI (E : Env) (R : Rec) (S : AS) (io : Opr) : Option AV :=
  match io.op with
  | .call fa args => match S.arg fa, S.args args with
    | some (.fn fid first cap), some vs => if hasM.hasML (first ++ vs ++ cap) = true then none else pureOf E R (S.withH nilH) (.fn fid first cap) vs
    | _, _ => none
  | op => if loudOp op then none else (iop (S.withH nilH) op).map (·.1)

theorem pureOf_H {fid : FuncId} {first cap vs : List AV} (h : hasM.hasML (first ++ vs ++ cap) = false) : pureOf E R S (.fn fid first cap) vs = pureOf E R S' (.fn fid first cap) vs := by
  have : (first ++ vs ++ cap).map (S.view VD) = (first ++ vs ++ cap).map (S'.view VD) := view_noL (fun v => view_noM VD v) _ h
  simp only [pureOf, this]

theorem stepI_quiet (h : stepI E R S io = some v) (H : HS) : quiet1 E R (S.withH H) io = some v := by
  unfold stepI at h
  unfold quiet1
  split at h
  · rename_i fa args hop
    simp only [hop, arg_H, args_H]
    split at h
    · rename_i fid first cap vs hf ha
      split at h
      · cases h
      · rename_i hm
        simp only [hf, ha]
        rw [← h]
        exact pureOf_H (by simpa using hm)
    · cases h
  · rename_i hop
    split at h
    · cases h
    · rename_i hl
      simp only [Option.map_eq_some_iff, Prod.exists, exists_and_right, exists_eq_right] at h
      obtain ⟨S1, h⟩ := h
      obtain ⟨S2, h2⟩ := iop_E (by simpa using hl) h H
      split
      · rename_i hop2; exact absurd hop2 (hop _ _)
      · rw [if_neg hl, h2]; rfl

theorem stepI_T (h : ∀ d ∈ readsO io, lookT d T = S.get d) : stepI E R (S.withT T) io = stepI E R S io := by
  have h2 : ∀ d ∈ reads io.op, lookT d T = S.get d := fun d hd => h d (List.mem_append_right _ hd)
  unfold stepI
  split
  · rename_i fa args hop
    rw [hop] at h2
    rw [arg_T fun d hd => h2 d (by simp [reads, hd]), args_T fun d hd => h2 d (by simp [reads, hd])]
    split
    · have : ((S.withT T).withH nilH) = ((S.withH nilH).withT T) := rfl
      rw [this, pureOf_T]
    · rfl
  · split
    · rfl
    · have : ((S.withT T).withH nilH) = ((S.withH nilH).withT T) := rfl
      rw [this, iop_T (S := S.withH nilH) h2]; cases iop (S.withH nilH) io.op <;> rfl

end
end Go.Am
