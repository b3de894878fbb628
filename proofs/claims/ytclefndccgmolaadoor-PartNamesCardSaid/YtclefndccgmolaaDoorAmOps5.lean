/-
  FIELDS, INDEXES, SLICES, COMPARISONS. A general base for proofs: no program is named here.
-/
import Derived.Test.YtclefndccgmolaaDoorAmOps4
namespace Go.Am
open Go Go.RowKit

section
variable {P : Program} {w0 w : World} {N0 : Nat} {I : LI} {S S' : AS} {a : Act} {io : IOp} {v : AV}

theorem s_un {op : UnOp} {x : Value} {xv r : AV} (hx : VRel w I.ro (some I) xv x) (hr : unOp op xv = some r) : ∃ u, (Op.unary op x).run P w = .ok u w ∧ VRel w I.ro (some I) r u := by
  unfold unOp at hr
  split at hr
  · cases hx; simp only [Option.some.injEq] at hr; subst hr; exact ⟨_, by simp only [Op.unary, Op.intArith]; rfl, .int⟩
  · cases hx; simp only [Option.some.injEq] at hr; subst hr; exact ⟨_, by simp only [Op.unary, Op.intBits]; rfl, .int⟩
  · cases hx; simp only [Option.some.injEq] at hr; subst hr; exact ⟨_, by simp only [Op.unary]; rfl, .bool⟩
  · cases hr

theorem s_eqk {d : Nat} {t : TypeId} {k : EqK} (hk : eqkOf P t = some k) {x y : AV} {u z : Value} {r : Bool} (hx : VRel w I.ro (some I) x u) (hy : VRel w I.ro (some I) y z) (hr : eqK k x y = some r) :
    (Op.equalIn (d + 1) t u z).run P w = .ok r w := by
  unfold eqkOf at hk
  unfold eqK at hr
  split at hr
  · cases hx; cases hy
    split at hr
    · rename_i h; subst h
      simp only [Option.some.injEq] at hr; subst hr
      split at hk <;> simp only [Option.some.injEq, reduceCtorEq] at hk
      rename_i hu
      exact run_equalIn_int w d t _ _ _ _ hu
    · cases hr
  · cases hx; cases hy
    simp only [Option.some.injEq] at hr; subst hr
    split at hk <;> simp only [Option.some.injEq, reduceCtorEq] at hk
    rename_i hu
    exact run_equalIn_bool' w d t _ _ hu
  · cases hx; cases hy
    simp only [Option.some.injEq] at hr; subst hr
    split at hk <;> simp only [Option.some.injEq, reduceCtorEq] at hk
    rename_i hu
    rw [run_equalIn_string w d t _ _ hu, toList_str, toList_str]
  · cases hr

theorem eqk_plain {t : TypeId} {k : EqK} (hk : eqkOf P t = some k) : aggOf P t = some none := by
  unfold eqkOf at hk
  unfold aggOf
  split at hk <;> simp_all

theorem s_eqfs {d : Nat} {xs ys : List AV} {us zs : Array Value} (hx : CRel w I.ro (some I) xs us) (hy : CRel w I.ro (some I) ys zs) : ∀ (fs : List Field) (l : List (Nat × EqK)) (r : Bool), eqFieldsOf P fs = some l → eqFs xs ys l = some r →
    (Op.eqFields (d + 1) us zs fs).run P w = .ok r w
  | [], l, r, h1, h2 => by
    simp [eqFieldsOf] at h1; subst h1
    simp [eqFs] at h2; subst h2
    simp [Op.eqFields]
  | f :: fs, l, r, h1, h2 => by
    simp only [eqFieldsOf] at h1
    split at h1
    · cases h1
    · rename_i hn
      split at h1
      · rename_i k rl hk hrl
        simp only [Option.some.injEq] at h1; subst h1
        simp only [eqFs] at h2
        split at h2
        · rename_i x y hxo hyo
          split at h2
          · rename_i p q hp hq
            simp only [Option.some.injEq] at h2; subst h2
            have e1 : us[f.offset]? = some (us.getD f.offset undef) := by
              have : f.offset < us.size := by rw [hx.1]; exact (List.getElem?_eq_some_iff.1 hxo).1
              simp [Array.getD_eq_getD_getElem?, this]
            have e2 : zs[f.offset]? = some (zs.getD f.offset undef) := by
              have : f.offset < zs.size := by rw [hy.1]; exact (List.getElem?_eq_some_iff.1 hyo).1
              simp [Array.getD_eq_getD_getElem?, this]
            have pa := (rn_part (eqk_plain hk) us f.offset w).2 _ rfl e1
            have pb := (rn_part (eqk_plain hk) zs f.offset w).2 _ rfl e2
            have pc := s_eqk (d := d) hk (hx.2 _ _ hxo) (hy.2 _ _ hyo) hp
            simp only [Op.eqFields, ne_eq, hn, not_false_eq_true, if_true, Sem.run_bind, pa, Result.andThen_ok, pb, pc]
            cases p
            · simp
            · simp only [Bool.not_true, Bool.false_eq_true, if_false, Bool.true_and]
              exact s_eqfs hx hy fs rl q hrl hq
          · cases h2
        · cases h2
      · cases h1

theorem s_eqs {t : TypeId} {fs : Array Field} (hu : P.underlying t = some (.struct fs)) (h1 : P.stoodInHeld t = false) {l : List (Nat × EqK)} (hl : eqFieldsOf P fs.toList = some l) {xs ys : List AV} {us zs : Array Value}
    (hx : CRel w I.ro (some I) xs us) (hy : CRel w I.ro (some I) ys zs) {r : Bool} (hr : eqFs xs ys l = some r) :
    (Go.binOp .eql t (.agg us) (.agg zs)).run P w = .ok (.bool r) w ∧ (Go.binOp .neq t (.agg us) (.agg zs)).run P w = .ok (.bool (!r)) w := by
  have hf : P.fieldsOf t = fs := by unfold Program.fieldsOf; rw [hu]
  have hk := run_equalIn_struct (P := P) w 9999 t us zs (by rw [hf]; exact hu) h1
  rw [hf, s_eqfs (d := 9998) hx hy fs.toList l r hl hr] at hk
  constructor
  · rw [run_eql_struct, hk]; rfl
  · rw [run_neq_struct, hk]; rfl

end
end Go.Am
