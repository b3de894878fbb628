/-
  THE PURE OPERATIONS ARE SOUND, ONE BY ONE. A general base for proofs: no program is named here.
-/
import Derived.Test.YtclefndccgmolaaDoorAmOps2
namespace Go.Am
open Go Go.RowKit

section
variable {P : Program} {w0 w : World} {N0 : Nat} {I : LI} {S S' : AS} {a : Act} {io : IOp} {v : AV}

theorem getD_extract (cs : Array Value) (o n i : Nat) (hi : i < n) : (cs.extract o (o + n)).getD i undef = cs.getD (o + i) undef := by
  simp only [Array.getD_eq_getD_getElem?, Array.getElem?_extract]
  split
  · rfl
  · have : cs.size ≤ o + i := by omega
    simp [Array.getElem?_eq_none this]

theorem agg_take {w : World} {ro : Nat → Prop} {L : Option LI} {cs : List AV} {us : Array Value} (h1 : us.size = cs.length) (h : ∀ (i : Nat) (x : AV), cs[i]? = some x → VRel w ro L x (us.getD i undef))
    {off n : Nat} (hn : off + n ≤ cs.length) : VRel w ro L (.agg ((cs.drop off).take n)) (.agg (us.extract off (off + n))) := by
  refine .agg (by simp; omega) fun i x hx => ?_
  have hi : i < n := by
    have := (List.getElem?_eq_some_iff.1 hx).1
    simp at this; omega
  rw [getD_extract us off n i hi]
  refine h (off + i) x ?_
  rw [List.getElem?_take_of_lt hi, List.getElem?_drop] at hx
  exact hx

theorem s_pick {c x y : Operand} (h : Rel w0 N0 I S a w) {cc ca cb : Arg} (h1 : comOperand c = some cc) (h2 : comOperand x = some ca) (h3 : comOperand y = some cb) (hr : iop S (.pick cc ca cb) = some (v, S')) :
    ∃ u, (do pure (Next.value (if ← asBool (a.eval c) then a.eval x else a.eval y)) : Sem Next).run P w = .ok (.value u) w ∧ VRel w I.ro (some I) v u ∧ S' = S := by
  simp only [iop] at hr
  cases hc : S.arg cc with
  | none => simp [hc] at hr
  | some cv =>
    have hv := h.arg h1 hc
    cases cv <;> simp only [hc, reduceCtorEq] at hr
    rename_i t
    generalize hcu : a.eval c = cu at hv
    cases hv
    cases t
    · simp only [Bool.false_eq_true, if_false, Option.map_eq_some_iff, Prod.mk.injEq] at hr
      obtain ⟨b, hb, rfl, rfl⟩ := hr
      exact ⟨a.eval y, by simp [asBool], h.arg h3 hb, rfl⟩
    · simp only [if_true, Option.map_eq_some_iff, Prod.mk.injEq] at hr
      obtain ⟨b, hb, rfl, rfl⟩ := hr
      exact ⟨a.eval x, by simp [asBool], h.arg h2 hb, rfl⟩

theorem toList_str (t : ByteArray) : t.toList = t.data.toList := ByteArray.toList_eq t

theorem s_binInt {op : BinOp} {k : IntKind} {x y : Int} {t : TypeId} {r : AV} (hs : op ≠ .shl) (hs' : op ≠ .shr) (hr : binInt op k x y = some r) :
    ∃ u, (Go.binOp op t (.int k x) (.int k y)).run P w = .ok u w ∧ VRel w I.ro (some I) r u := by
  have ki : ∀ {n : Int} {u : Value}, u = .int k n → VRel w I.ro (some I) (.int k n) u := fun h => by subst h; exact .int
  have kb : ∀ {n : Bool} {u : Value}, u = .bool n → VRel w I.ro (some I) (.bool n) u := fun h => by subst h; exact .bool
  cases op with
  | shl => exact absurd rfl hs
  | shr => exact absurd rfl hs'
  | quo =>
    simp only [binInt] at hr
    split at hr
    · cases hr
    · rename_i hy
      simp only [Option.some.injEq] at hr; subst hr
      exact ⟨_, by simp [Go.binOp, Op.intDiv, hy], ki rfl⟩
  | rem =>
    simp only [binInt] at hr
    split at hr
    · cases hr
    · rename_i hy
      simp only [Option.some.injEq] at hr; subst hr
      exact ⟨_, by simp [Go.binOp, Op.intDiv, hy], ki rfl⟩
  | add => simp only [binInt, Option.some.injEq] at hr; subst hr; exact ⟨_, by simp [Go.binOp, Op.intArith], ki rfl⟩
  | sub => simp only [binInt, Option.some.injEq] at hr; subst hr; exact ⟨_, by simp [Go.binOp, Op.intArith], ki rfl⟩
  | mul => simp only [binInt, Option.some.injEq] at hr; subst hr; exact ⟨_, by simp [Go.binOp, Op.intArith], ki rfl⟩
  | and => simp only [binInt, Option.some.injEq] at hr; subst hr; exact ⟨_, by simp only [Go.binOp, Op.intBits, ne_eq, not_true_eq_false, if_false]; rfl, ki rfl⟩
  | or => simp only [binInt, Option.some.injEq] at hr; subst hr; exact ⟨_, by simp only [Go.binOp, Op.intBits, ne_eq, not_true_eq_false, if_false]; rfl, ki rfl⟩
  | xor => simp only [binInt, Option.some.injEq] at hr; subst hr; exact ⟨_, by simp only [Go.binOp, Op.intBits, ne_eq, not_true_eq_false, if_false]; rfl, ki rfl⟩
  | andNot => simp only [binInt, Option.some.injEq] at hr; subst hr; exact ⟨_, by simp only [Go.binOp, Op.intBits, ne_eq, not_true_eq_false, if_false]; rfl, ki rfl⟩
  | eql => simp only [binInt, Option.some.injEq] at hr; subst hr; exact ⟨_, by simp [Go.binOp, Op.intCmp], kb rfl⟩
  | neq => simp only [binInt, Option.some.injEq] at hr; subst hr; exact ⟨_, by simp [Go.binOp, Op.intCmp], kb rfl⟩
  | lss => simp only [binInt, Option.some.injEq] at hr; subst hr; exact ⟨_, by simp [Go.binOp, Op.intCmp], kb rfl⟩
  | leq => simp only [binInt, Option.some.injEq] at hr; subst hr; exact ⟨_, by simp [Go.binOp, Op.intCmp], kb rfl⟩
  | gtr => simp only [binInt, Option.some.injEq] at hr; subst hr; exact ⟨_, by simp [Go.binOp, Op.intCmp], kb rfl⟩
  | geq => simp only [binInt, Option.some.injEq] at hr; subst hr; exact ⟨_, by simp [Go.binOp, Op.intCmp], kb rfl⟩

theorem s_binShift {op : BinOp} {k k' : IntKind} {x y : Int} {t : TypeId} {r : AV} (hs : op = .shl ∨ op = .shr) (hr : binShift op k x y = some r) :
    ∃ u, (Go.binOp op t (.int k x) (.int k' y)).run P w = .ok u w ∧ VRel w I.ro (some I) r u := by
  unfold binShift at hr
  split at hr
  · cases hr
  · rename_i hy
    rcases hs with rfl | rfl <;> simp only [Option.some.injEq] at hr <;> subst hr
    · exact ⟨_, by simp only [Go.binOp, Op.shift, if_neg hy]; rfl, .int⟩
    · exact ⟨_, by simp only [Go.binOp, Op.shift, if_neg hy]; rfl, .int⟩

theorem s_binStr {op : BinOp} {x y : ByteArray} {t : TypeId} {r : AV} (hr : binStr op x.data.toList y.data.toList = some r) :
    ∃ u, (Go.binOp op t (.string x) (.string y)).run P w = .ok u w ∧ VRel w I.ro (some I) r u := by
  cases op <;> simp only [binStr, Option.some.injEq, reduceCtorEq] at hr
  case add =>
    split at hr
    · rename_i hle
      simp only [Option.some.injEq] at hr
      subst hr
      refine ⟨.string (x ++ y), ?_, ?_⟩
      · have hx : x.size = x.data.toList.length := rfl
        have hy : y.size = y.data.toList.length := rfl
        have : ¬ ((x.size + y.size : Nat) : Int) > IntKind.i64.max := by
          rw [hx, hy]
          have : IntKind.i64.max = 9223372036854775807 := by decide
          omega
        simp only [Go.binOp, Op.stringOp, this, if_false]
        rfl
      · have : (x ++ y).data.toList = x.data.toList ++ y.data.toList := by simp [ByteArray.data_append]
        rw [← this]; exact .str
    · cases hr
  all_goals subst hr; exact ⟨_, by simp only [Go.binOp, Op.stringOp, toList_str]; rfl, .bool⟩

theorem cmpR_ok {op : BinOp} {lo hi lo' hi' a b : Int} {c : Bool} {k : IntKind} (h1 : lo ≤ a) (h2 : a ≤ hi) (h3 : lo' ≤ b) (h4 : b ≤ hi') (h : cmpR op lo hi lo' hi' = some c) : binInt op k a b = some (.bool c) ∧ op ≠ .shl ∧ op ≠ .shr := by
  cases op <;> simp only [cmpR, reduceCtorEq] at h
  case eql =>
    split at h <;> simp only [Option.some.injEq, reduceCtorEq] at h
    subst h
    refine ⟨?_, by simp, by simp⟩
    have : a ≠ b := by omega
    simp [binInt, this]
  case neq =>
    split at h <;> simp only [Option.some.injEq, reduceCtorEq] at h
    subst h
    refine ⟨?_, by simp, by simp⟩
    have : a ≠ b := by omega
    simp [binInt, this]
  all_goals
    split at h
    · simp only [Option.some.injEq] at h; subst h
      refine ⟨?_, by simp, by simp⟩
      simp only [binInt, Option.some.injEq, AV.bool.injEq, decide_eq_true_eq]; omega
    · split at h <;> simp only [Option.some.injEq, reduceCtorEq] at h
      subst h
      refine ⟨?_, by simp, by simp⟩
      simp only [binInt, Option.some.injEq, AV.bool.injEq, decide_eq_false_iff_not]; omega

theorem eqA_ok {op : BinOp} {no : List (List UInt8)} {lo hi : Nat} {s t : List UInt8} {c : Bool} (h0 : ∀ s ∈ no, t ≠ s) (h1 : lo ≤ t.length) (h2 : t.length ≤ hi) (h : eqA op no lo hi s = some c) : binStr op t s = some (.bool c) ∧ binStr op s t = some (.bool c) := by
  unfold eqA at h
  split at h <;> try cases h
  rename_i hc
  have hne : t ≠ s := by
    rcases hc with hc | hc | hc
    · exact h0 s hc
    · intro e; subst e; omega
    · intro e; subst e; omega
  have hne' : s ≠ t := fun e => hne e.symm
  split at h <;> simp only [Option.some.injEq, reduceCtorEq] at h <;> subst h <;> simp [binStr, hne, hne']

theorem s_binAbs {op : BinOp} {t : TypeId} {x y : Value} {xv yv r : AV} (hx : VRel w I.ro (some I) xv x) (hy : VRel w I.ro (some I) yv y) (hr : binAbs op xv yv = some r) :
    ∃ u, (Go.binOp op t x y).run P w = .ok u w ∧ VRel w I.ro (some I) r u ∧ (∀ cs, x ≠ .agg cs) ∧ x ≠ .nilIface := by
  unfold binAbs at hr
  split at hr
  · split at hr <;> try cases hr
    rename_i hk; subst hk
    simp only [Option.map_eq_some_iff] at hr
    obtain ⟨c, hc, rfl⟩ := hr
    cases hx; cases hy
    rename_i n h1 h2
    obtain ⟨e1, e2, e3⟩ := cmpR_ok h1 h2 (Int.le_refl _) (Int.le_refl _) hc
    obtain ⟨u, a, b⟩ := s_binInt (P := P) (w := w) (I := I) (t := t) e2 e3 e1
    exact ⟨u, a, b, by simp, by simp⟩
  · split at hr <;> try cases hr
    rename_i hk; subst hk
    simp only [Option.map_eq_some_iff] at hr
    obtain ⟨c, hc, rfl⟩ := hr
    cases hx; cases hy
    rename_i n h1 h2
    obtain ⟨e1, e2, e3⟩ := cmpR_ok (Int.le_refl _) (Int.le_refl _) h1 h2 hc
    obtain ⟨u, a, b⟩ := s_binInt (P := P) (w := w) (I := I) (t := t) e2 e3 e1
    exact ⟨u, a, b, by simp, by simp⟩
  · split at hr <;> try cases hr
    rename_i hk; subst hk
    simp only [Option.map_eq_some_iff] at hr
    obtain ⟨c, hc, rfl⟩ := hr
    cases hx; cases hy
    rename_i k l b n hl
    cases op <;> simp only [remInts, reduceCtorEq] at hc
    split at hc <;> try cases hc
    rename_i a0 l0
    split at hc <;> try cases hc
    rename_i hb
    split at hc <;> try cases hc
    rename_i hall
    have := List.all_eq_true.1 hall n hl
    simp only [beq_iff_eq] at this
    have e1 : binInt .rem k n b = some (.int k (a0.tmod b)) := by simp only [binInt, if_neg hb, this]
    obtain ⟨u, a, b⟩ := s_binInt (P := P) (w := w) (I := I) (t := t) (by simp) (by simp) e1
    exact ⟨u, a, b, by simp, by simp⟩
  · simp only [Option.map_eq_some_iff] at hr
    obtain ⟨c, hc, rfl⟩ := hr
    cases hx; cases hy
    rename_i t1 h1 h2 h0
    obtain ⟨u, a, b⟩ := s_binStr (P := P) (w := w) (I := I) (t := t) (eqA_ok (by assumption) (by assumption) (by assumption) hc).1
    exact ⟨u, a, b, by simp, by simp⟩
  · simp only [Option.map_eq_some_iff] at hr
    obtain ⟨c, hc, rfl⟩ := hr
    cases hx; cases hy
    rename_i t0 t1 h0 h1 h2
    obtain ⟨u, a, b⟩ := s_binStr (P := P) (w := w) (I := I) (t := t) (eqA_ok (by assumption) (by assumption) (by assumption) hc).2
    exact ⟨u, a, b, by simp, by simp⟩
  · cases hr

theorem s_bin {op : BinOp} {t : TypeId} {x y : Value} {xv yv r : AV} (hx : VRel w I.ro (some I) xv x) (hy : VRel w I.ro (some I) yv y) (hr : binOp op xv yv = some r) :
    ∃ u, (Go.binOp op t x y).run P w = .ok u w ∧ VRel w I.ro (some I) r u ∧ (∀ cs, x ≠ .agg cs) ∧ x ≠ .nilIface := by
  unfold binOp at hr
  split at hr
  · cases hx; cases hy
    rename_i k x k' y
    have key : ∀ {P' : Prop}, P' → P' ∧ (∀ cs, (Value.int k x) ≠ .agg cs) ∧ (Value.int k x) ≠ .nilIface := fun h => ⟨h, by simp, by simp⟩
    split at hr
    · obtain ⟨u, a, b⟩ := s_binShift (P := P) (w := w) (I := I) (t := t) (k' := k') (.inl rfl) hr; exact ⟨u, a, key b⟩
    · obtain ⟨u, a, b⟩ := s_binShift (P := P) (w := w) (I := I) (t := t) (k' := k') (.inr rfl) hr; exact ⟨u, a, key b⟩
    · rename_i n1 n2
      split at hr
      · rename_i hk; subst hk
        obtain ⟨u, a, b⟩ := s_binInt (P := P) (w := w) (I := I) (t := t) n1 n2 hr; exact ⟨u, a, key b⟩
      · cases hr
  · cases hx; cases hy
    obtain ⟨u, a, b⟩ := s_binStr (P := P) (w := w) (I := I) (t := t) hr
    exact ⟨u, a, b, by simp, by simp⟩
  · exact s_binAbs hx hy hr

theorem run_eqGuard_other (op : BinOp) (t : TypeId) (x y : Operand) (u z : Value) (h1 : ∀ cs, u ≠ .agg cs) (h2 : u ≠ .nilIface) : (eqGuard op t x y u z).run P w = .ok () w := by
  unfold eqGuard
  cases op <;> simp only [Bool.not_true, Bool.not_false, Bool.false_eq_true, if_true, if_false] <;> (try rfl) <;>
    (split
     · exact absurd rfl h2
     · exact absurd rfl (h1 _)
     · simp)

end
end Go.Am
