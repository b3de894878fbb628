/-
  PARTS PUT TOGETHER; FIELDS, INDEXES, SLICES. A general base for proofs: no program is named here.
-/
import Derived.Test.YtclefndccgmolaaDoorAmOps3
namespace Go.Am
open Go Go.RowKit

theorem getD_congr {a b : Array Value} {i : Nat} (h : a[i]? = b[i]?) : a.getD i undef = b.getD i undef := by
  simp [Array.getD_eq_getD_getElem?, h]

theorem setAt_length {α : Type} (off : Nat) (cs vs : List α) (h : off + vs.length ≤ cs.length) : (setAt off cs vs).length = cs.length := by
  simp [setAt]; omega

theorem setAt_get {α : Type} (off : Nat) (cs vs : List α) (h : off + vs.length ≤ cs.length) (k : Nat) :
    (setAt off cs vs)[k]? = if k < off then cs[k]? else if k < off + vs.length then vs[k - off]? else cs[k]? := by
  have hl : (cs.take off).length = off := by simp; omega
  unfold setAt
  by_cases h1 : k < off
  · rw [if_pos h1, List.append_assoc, List.getElem?_append_left (by omega), List.getElem?_take_of_lt h1]
  · rw [if_neg h1, List.append_assoc, List.getElem?_append_right (by omega), hl]
    by_cases h2 : k < off + vs.length
    · rw [if_pos h2, List.getElem?_append_left (by omega)]
    · rw [if_neg h2, List.getElem?_append_right (by omega), List.getElem?_drop]
      congr 1; omega

theorem fold_zipIdx (off : Nat) : ∀ (vs : List Value) (k : Nat) (cs : Array Value), 
    ((vs.zipIdx k).foldl (fun cs (x : Value × Nat) => cs.setIfInBounds (off + x.2) x.1) cs).size = cs.size ∧
    ∀ j, ((vs.zipIdx k).foldl (fun cs (x : Value × Nat) => cs.setIfInBounds (off + x.2) x.1) cs)[j]? = if off + k ≤ j ∧ j < off + k + vs.length ∧ j < cs.size then vs[j - (off + k)]? else cs[j]? := by
  intro vs
  induction vs with
  | nil => intro k cs; simp; intro j h1 h2; omega
  | cons v vs ih =>
    intro k cs
    simp only [List.zipIdx_cons, List.foldl_cons]
    obtain ⟨h1, h2⟩ := ih (k + 1) (cs.setIfInBounds (off + k) v)
    refine ⟨by rw [h1]; simp, fun j => ?_⟩
    rw [h2 j]
    simp only [Array.size_setIfInBounds, List.length_cons]
    by_cases hj : off + k = j
    · subst hj
      by_cases hs : off + k < cs.size
      · rw [if_neg (by omega), if_pos (by omega)]
        simp [hs]
      · rw [if_neg (by omega), if_neg (by omega)]
        simp [hs]
    · rw [Array.getElem?_setIfInBounds_ne hj]
      by_cases hc : off + (k + 1) ≤ j ∧ j < off + (k + 1) + vs.length ∧ j < cs.size
      · rw [if_pos hc, if_pos (by omega)]
        rw [show j - (off + k) = (j - (off + (k + 1))) + 1 from by omega, List.getElem?_cons_succ]
      · rw [if_neg hc, if_neg (by omega)]

theorem fill_fold (off : Nat) (vs cs : Array Value) (h : off + vs.size ≤ cs.size) (j : Nat) :
    (vs.zipIdx.foldl (fun cs (x : Value × Nat) => cs.setIfInBounds (off + x.2) x.1) cs)[j]? = if j < off then cs[j]? else if j < off + vs.size then vs[j - off]? else cs[j]? := by
  have e : vs.zipIdx.foldl (fun cs (x : Value × Nat) => cs.setIfInBounds (off + x.2) x.1) cs = (vs.toList.zipIdx 0).foldl (fun cs (x : Value × Nat) => cs.setIfInBounds (off + x.2) x.1) cs := by
    rw [← Array.foldl_toList]; simp
  rw [e, (fold_zipIdx off vs.toList 0 cs).2 j]
  simp only [Nat.add_zero, Array.length_toList]
  by_cases h1 : j < off
  · rw [if_neg (by omega), if_pos h1]
  · by_cases h2 : j < off + vs.size
    · rw [if_pos (by omega), if_neg h1, if_pos h2]; simp
    · rw [if_neg (by omega), if_neg h1, if_neg h2]

theorem fill_fold_size (off : Nat) (vs cs : Array Value) : (vs.zipIdx.foldl (fun cs (x : Value × Nat) => cs.setIfInBounds (off + x.2) x.1) cs).size = cs.size := by
  have e : vs.zipIdx.foldl (fun cs (x : Value × Nat) => cs.setIfInBounds (off + x.2) x.1) cs = (vs.toList.zipIdx 0).foldl (fun cs (x : Value × Nat) => cs.setIfInBounds (off + x.2) x.1) cs := by
    rw [← Array.foldl_toList]; simp
  rw [e, (fold_zipIdx off vs.toList 0 cs).1]

/-- Cells and what they are. -/
def CRel (w : World) (ro : Nat → Prop) (L : Option LI) (cs : List AV) (us : Array Value) : Prop :=
  us.size = cs.length ∧ ∀ (i : Nat) (x : AV), cs[i]? = some x → VRel w ro L x (us.getD i undef)

theorem CRel.setAt {w : World} {ro : Nat → Prop} {L : Option LI} {cs vs : List AV} {us zs r : Array Value} {off : Nat} (h : CRel w ro L cs us) (hv : CRel w ro L vs zs) (hle : off + vs.length ≤ cs.length)
    (hs : r.size = us.size) (hr : ∀ j, r[j]? = if j < off then us[j]? else if j < off + zs.size then zs[j - off]? else us[j]?) : CRel w ro L (setAt off cs vs) r := by
  refine ⟨by rw [hs, h.1, setAt_length off cs vs hle], fun i x hx => ?_⟩
  rw [setAt_get off cs vs hle] at hx
  have hri := hr i
  rw [hv.1] at hri
  by_cases h1 : i < off
  · rw [if_pos h1] at hx hri
    rw [getD_congr hri]; exact h.2 i x hx
  · rw [if_neg h1] at hx hri
    by_cases h2 : i < off + vs.length
    · rw [if_pos h2] at hx hri
      rw [Array.getD_eq_getD_getElem?, hri, ← Array.getD_eq_getD_getElem?]
      exact hv.2 _ x hx
    · rw [if_neg h2] at hx hri
      rw [getD_congr hri]; exact h.2 i x hx

section
variable {P : Program} {w0 w : World} {N0 : Nat} {I : LI} {S S' : AS} {a : Act} {io : IOp} {v : AV}

theorem fill_rel (h : Rel w0 N0 I S a w) (place : Nat → Option (Nat × Nat)) : ∀ (xs : List (Nat × Operand)) (ps : List (Nat × Nat × Arg)) (l : List (Nat × AV)) (z cs : List AV) (zs : Array Value),
    comParts place xs = some ps → S.parts ps = some l → fillParts z l = some cs → CRel w I.ro (some I) z zs →
    ∃ us, Instr.fill place zs (xs.map fun (i, x) => (i, a.eval x)) = some us ∧ CRel w I.ro (some I) cs us
  | [], ps, l, z, cs, zs, h1, h2, h3, h4 => by
    simp [comParts] at h1; subst h1
    simp [AS.parts] at h2; subst h2
    simp [fillParts] at h3; subst h3
    exact ⟨zs, rfl, h4⟩
  | (i, x) :: xs, ps, l, z, cs, zs, h1, h2, h3, h4 => by
    simp only [comParts] at h1
    split at h1
    · rename_i off size ar r hp ha hrr
      simp only [Option.some.injEq] at h1; subst h1
      simp only [AS.parts] at h2
      split at h2
      · rename_i xv rv hxv hrv
        split at h2
        · rename_i vs hvs
          split at h2
          · rename_i hsz
            simp only [Option.some.injEq] at h2; subst h2
            simp only [fillParts, hvs] at h3
            split at h3
            · rename_i hle
              have hx := h.arg ha hxv
              obtain ⟨c1, c2⟩ := cells_rel hx hvs
              have h4' : CRel w I.ro (some I) (setAt off z vs) ((a.eval x).cells.zipIdx.foldl (fun cs (x : Value × Nat) => cs.setIfInBounds (off + x.2) x.1) zs) :=
                h4.setAt ⟨c1, c2⟩ hle (fill_fold_size _ _ _) (fill_fold off _ _ (by rw [c1, h4.1]; exact hle))
              obtain ⟨us, e1, e2⟩ := fill_rel h place xs r rv (setAt off z vs) cs _ hrr hrv h3 h4'
              refine ⟨us, ?_, e2⟩
              have n1 : ¬ ((a.eval x).cells.size ≠ size || off + (a.eval x).cells.size > zs.size) = true := by
                simp [c1, hsz, h4.1]; omega
              simp only [List.map_cons, Instr.fill, hp, n1]
              exact e1
            · cases h3
          · cases h2
        · cases h2
      · cases h2
    · cases h1

theorem zero_crel {t : TypeId} {z : List AV} (hz : zeroOf P t = some z) : ∃ inf u, P.info? t = some inf ∧ inf.zero = some u ∧ ∀ (w : World) (ro : Nat → Prop) (L : Option LI), CRel w ro L z u.cells := by
  unfold zeroOf at hz
  cases hi : P.info? t with
  | none => simp [hi] at hz
  | some inf =>
    simp only [hi] at hz
    cases hzz : inf.zero with
    | none => simp [hzz] at hz
    | some u =>
      simp only [hzz] at hz
      obtain ⟨h1, h2⟩ := mapM_get hz
      refine ⟨inf, u, rfl, hzz, fun w ro L => ⟨by simp [h1], fun i x hx => ?_⟩⟩
      obtain ⟨y, hy, hf⟩ := h2 i x hx
      have : u.cells.getD i undef = y := by
        rw [Array.getElem?_toList] at hy
        simp [Array.getD_eq_getD_getElem?, hy]
      rw [this]
      exact ofConst_rel 4 y x hf

theorem s_build (h : Rel w0 N0 I S a w) {t : TypeId} {parts : Array (Nat × Operand)} (hc : comOp P (.build t parts) = some io) (hr : iop S io = some (v, S')) :
    ∃ u, (Instr.build t (parts.map fun (i, x) => (i, a.eval x))).run P w = .ok u w ∧ VRel w I.ro (some I) v u ∧ S' = S := by
  simp only [comOp] at hc
  have key : ∀ (z : List AV) (ps : List (Nat × Nat × Arg)) (place : Nat → Option (Nat × Nat)), zeroOf P t = some z → comParts place parts.toList = some ps → io = .build z ps →
      (∀ inf u, P.info? t = some inf → inf.zero = some u → ∀ us, Instr.fill place u.cells (parts.map fun (i, x) => (i, a.eval x)).toList = some us → P.built t (parts.map fun (i, x) => (i, a.eval x)).toList = some us) →
      ∃ u, (Instr.build t (parts.map fun (i, x) => (i, a.eval x))).run P w = .ok u w ∧ VRel w I.ro (some I) v u ∧ S' = S := by
    intro z ps place hz hp hio hb
    subst hio
    simp only [iop] at hr
    split at hr
    · rename_i l hl
      split at hr
      · rename_i cs hcs
        simp only [Option.some.injEq, Prod.mk.injEq] at hr
        obtain ⟨rfl, rfl⟩ := hr
        obtain ⟨inf, u, hi, hzz, hcr⟩ := zero_crel hz
        obtain ⟨us, e1, e2⟩ := fill_rel h place parts.toList ps l z cs u.cells hp hl hcs (hcr w I.ro (some I))
        refine ⟨.agg us, run_build w t _ us (hb inf u hi hzz us ?_), .agg e2.1 e2.2, rfl⟩
        rw [← e1]; simp
      · cases hr
    · cases hr
  split at hc
  · rename_i fs hu
    split at hc
    · rename_i z pl hz hpl
      simp only [Option.map_eq_some_iff] at hc
      obtain ⟨ps, hps, rfl⟩ := hc
      refine key z ps _ hz hps rfl fun inf u hi hzz us hf => ?_
      unfold placesOf at hpl
      simp only [Program.built, hi, hu, hzz, hpl]
      exact hf
    · cases hc
  · rename_i n e hu
    split at hc
    · rename_i z s hz hs
      simp only [Option.map_eq_some_iff] at hc
      obtain ⟨ps, hps, rfl⟩ := hc
      refine key z ps _ hz hps rfl fun inf u hi hzz us hf => ?_
      simp only [sizeOf?, Option.map_eq_some_iff] at hs
      obtain ⟨ie, hie, rfl⟩ := hs
      simp only [Program.built, hi, hu, hzz, hie]
      exact hf
    · cases hc
  · cases hc

end
end Go.Am
