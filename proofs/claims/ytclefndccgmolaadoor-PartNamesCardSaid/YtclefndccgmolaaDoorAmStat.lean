/-
  REGIONS WHOSE ORDER IS DRAWN: what the text alone shows of them, so that they run in the text's order. A general base for proofs: no program is named here.
-/
import Derived.Test.YtclefndccgmolaaDoorAmFlat
namespace Go.Am
open Go Go.RowKit

def bitAt (m i : Nat) : Bool := Nat.beq (Nat.land (Nat.shiftRight m i) 1) 1

theorem bitAt_eq (m i : Nat) : bitAt m i = m.testBit i := by
  have h : Nat.land (Nat.shiftRight m i) 1 = (m >>> i) % 2 := Nat.and_one_is_mod _
  unfold bitAt
  rw [h, Nat.testBit_eq_decide_div_mod_eq, Nat.shiftRight_eq_div_pow]
  rw [Bool.eq_iff_iff, decide_eq_true_iff]
  exact ⟨Nat.eq_of_beq_eq_true, fun e => by rw [e]; rfl⟩

def bitM (d : Nat) : Nat := Nat.shiftLeft 1 d

theorem bit_or (a b i : Nat) : bitAt (Nat.lor a b) i = (bitAt a i || bitAt b i) := by
  rw [bitAt_eq, bitAt_eq, bitAt_eq]; exact Nat.testBit_or a b i

theorem bit_M (d i : Nat) : bitAt (bitM d) i = decide (d = i) := by
  rw [bitAt_eq]
  show (1 <<< d).testBit i = _
  rw [Nat.one_shiftLeft, Nat.testBit_two_pow]

theorem bit_0 (i : Nat) : bitAt 0 i = false := by rw [bitAt_eq]; exact Nat.zero_testBit i

def dM : Option Nat → Nat
  | some d => bitM d
  | none => 0

theorem bit_dM (o : Option Nat) (i : Nat) : bitAt (dM o) i = true ↔ o = some i := by
  cases o with
  | none => simp [dM, bit_0]
  | some d => simp [dM, bit_M]

/-- An operation, its place, who comes ahead of it, and what these write. -/
structure OI where
  idx : Nat
  io : Opr
  a : Nat
  k : Nat

def nth {α : Type} : List α → Nat → Option α
  | [], _ => none
  | x :: l, n => match n with
    | 0 => some x
    | m + 1 => nth l m

theorem nth_eq {α : Type} : ∀ (l : List α) (n : Nat), nth l n = l[n]?
  | [], _ => rfl
  | x :: l, 0 => rfl
  | x :: l, n + 1 => by rw [nth]; simpa using nth_eq l n

def ancAt (acc : List OI) (len : Nat) : List Nat → Nat → Nat → Option (Nat × Nat)
  | [], a, k => some (a, k)
  | p :: ps, a, k => match Nat.ble (p + 1) len with
    | true => match nth acc (len - 1 - p) with
      | some s => ancAt acc len ps (Nat.lor a (Nat.lor s.a (bitM p))) (Nat.lor k (Nat.lor s.k (dM s.io.dst)))
      | none => none
    | false => none

def pass1 : List Opr → List (List Nat) → List OI → Nat → Option (List OI)
  | [], [], acc, _ => some acc.reverse
  | io :: ios, ps :: pres, acc, len => match ancAt acc len ps 0 0 with
    | some (a, k) => pass1 ios pres (⟨len, io, a, k⟩ :: acc) (len + 1)
    | none => none
  | _, _, _, _ => none

def qStat (E : Env) (op : IOp) : Bool :=
  match op with
  | .call (.c (.fn f _ _)) _ => E.known f
  | .call _ _ => false
  | op => !loudOp op

def ndM : List OI → Nat → Bool
  | [], _ => true
  | x :: l, m => match x.io.dst with
    | some d => match bitAt m d with
      | true => false
      | false => ndM l (Nat.lor m (bitM d))
    | none => ndM l m

def wAll : List OI → Nat
  | [] => 0
  | x :: l => Nat.lor (dM x.io.dst) (wAll l)

def readsOk (W : Nat) (x : OI) : Bool := (readsO x.io).all fun d => !bitAt W d || bitAt x.k d

def ldsOf (E : Env) : List OI → List OI
  | [] => []
  | x :: l => match qStat E x.io.op with
    | true => ldsOf E l
    | false => x :: ldsOf E l

def flagOf (E : Env) (lds : List OI) (x : OI) : Bool × Bool := (qStat E x.io.op, !(lds.all fun y => bitAt x.a y.idx || bitAt y.a x.idx))

def statD (E : Env) (ios : List Opr) (pres : List (List Nat)) (size : Nat) : Option (List (Bool × Bool)) :=
  match pass1 ios pres [] 0 with
  | some rs =>
    if ndM rs 0 && rs.all (readsOk (wAll rs)) && (ldsOf E rs).all (fun x => (ldsOf E rs).all fun y => Nat.ble x.idx y.idx || bitAt x.a y.idx) && ios.all (fun io => okDst size io.dst) then some (rs.map (flagOf E (ldsOf E rs))) else none
  | none => none

/-- The operations in the text's order, each as its flags have it: (only computes, may come up at several heaps). -/
def runS (P : Program) (E : Env) (R : Rec) : List Opr → List (Bool × Bool) → AS → Option AS
  | [], [], S => some S
  | io :: ios, (q, ind) :: fl, S => match wantedA S io with
    | some true =>
      if q then match (if ind then stepI E R S io else quiet1 E R S io) with
        | some v => runS P E R ios fl (S.put io.dst v)
        | none => none
      else match step1 P E R S io with
        | some (v, H) => runS P E R ios fl ((S.withH H).put io.dst v)
        | none => none
    | some false => runS P E R ios fl (S.put io.dst (.tup []))
    | none => none
  | _, _, _ => none

/-! ### What the passes say -/

structure PassOk (ios : List Opr) (pres : List (List Nat)) (rs : List OI) : Prop where
  len : rs.length = ios.length
  len2 : pres.length = ios.length
  at_ : ∀ (i : Nat) (r : OI), rs[i]? = some r → r.idx = i ∧ ios[i]? = some r.io
  acyc : ∀ (i : Nat) (ps : List Nat), pres[i]? = some ps → ∀ p ∈ ps, p < i
  up : ∀ (i : Nat) (ps : List Nat) (r : OI), pres[i]? = some ps → rs[i]? = some r → ∀ q, bitAt r.a q = true → ∃ p ∈ ps, q = p ∨ ∃ s, rs[p]? = some s ∧ bitAt s.a q = true
  down : ∀ (i : Nat) (ps : List Nat) (r : OI), pres[i]? = some ps → rs[i]? = some r → ∀ p ∈ ps, bitAt r.a p = true ∧ ∃ s, rs[p]? = some s ∧ ∀ q, bitAt s.a q = true → bitAt r.a q = true
  wr : ∀ (i : Nat) (ps : List Nat) (r : OI), pres[i]? = some ps → rs[i]? = some r → ∀ d, bitAt r.k d = true → ∃ p ∈ ps, ∃ s, rs[p]? = some s ∧ (s.io.dst = some d ∨ bitAt s.k d = true)

theorem ancAt_ok {acc : List OI} {len : Nat} (hacc : acc.length = len) : ∀ {ps : List Nat} {a k a' k' : Nat}, ancAt acc len ps a k = some (a', k') →
    (∀ p ∈ ps, p < len) ∧ (∀ q, bitAt a' q = true ↔ bitAt a q = true ∨ ∃ p ∈ ps, q = p ∨ ∃ s, acc.reverse[p]? = some s ∧ bitAt s.a q = true) ∧
    (∀ p ∈ ps, ∃ s, acc.reverse[p]? = some s) ∧
    (∀ d, bitAt k' d = true → bitAt k d = true ∨ ∃ p ∈ ps, ∃ s, acc.reverse[p]? = some s ∧ (s.io.dst = some d ∨ bitAt s.k d = true))
  | [], a, k, a', k', h => by
    simp only [ancAt, Option.some.injEq, Prod.mk.injEq] at h
    obtain ⟨rfl, rfl⟩ := h
    exact ⟨by simp, fun q => by simp, by simp, fun d hd => .inl hd⟩
  | p :: ps, a, k, a', k', h => by
    simp only [ancAt] at h
    split at h <;> try cases h
    rename_i hlt
    have hp : p < len := Nat.le_of_ble_eq_true hlt
    split at h <;> try cases h
    rename_i s hs
    rw [nth_eq] at hs
    have hrev : acc.reverse[p]? = some s := by
      rw [List.getElem?_reverse (by omega), hacc]; exact hs
    obtain ⟨h1, h2, h3, h4⟩ := ancAt_ok hacc h
    refine ⟨fun q hq => ?_, fun q => ?_, fun q hq => ?_, fun d hd => ?_⟩
    · rcases List.mem_cons.1 hq with rfl | hq
      · exact hp
      · exact h1 q hq
    · rw [h2]
      simp only [bit_or, bit_M, Bool.or_eq_true, decide_eq_true_eq, List.mem_cons, exists_eq_or_imp]
      constructor
      · rintro ((h | h | h) | h)
        · exact .inl h
        · exact .inr (.inl (.inr ⟨s, hrev, h⟩))
        · exact .inr (.inl (.inl h.symm))
        · exact .inr (.inr h)
      · rintro (h | (h | ⟨s', e, h⟩) | h)
        · exact .inl (.inl h)
        · exact .inl (.inr (.inr h.symm))
        · rw [hrev] at e; injection e with e; subst e; exact .inl (.inr (.inl h))
        · exact .inr h
    · rcases List.mem_cons.1 hq with rfl | hq
      · exact ⟨s, hrev⟩
      · exact h3 q hq
    · rcases h4 d hd with h | ⟨p', hp', h⟩
      · simp only [bit_or, Bool.or_eq_true] at h
        rcases h with h | h | h
        · exact .inl h
        · exact .inr ⟨p, List.mem_cons_self .., s, hrev, .inr h⟩
        · exact .inr ⟨p, List.mem_cons_self .., s, hrev, .inl ((bit_dM _ _).1 h)⟩
      · exact .inr ⟨p', List.mem_cons_of_mem _ hp', h⟩

theorem snoc_get {α : Type} {l : List α} {x y : α} {i : Nat} (h : (l ++ [x])[i]? = some y) : l[i]? = some y ∨ (i = l.length ∧ y = x) := get_snoc h

theorem PassOk.snoc {ios : List Opr} {pres : List (List Nat)} {rs : List OI} (h : PassOk ios pres rs) {io : Opr} {ps : List Nat} {a k : Nat}
    (h1 : ∀ p ∈ ps, p < rs.length) (h2 : ∀ q, bitAt a q = true ↔ ∃ p ∈ ps, q = p ∨ ∃ s, rs[p]? = some s ∧ bitAt s.a q = true)
    (h4 : ∀ d, bitAt k d = true → ∃ p ∈ ps, ∃ s, rs[p]? = some s ∧ (s.io.dst = some d ∨ bitAt s.k d = true)) :
    PassOk (ios ++ [io]) (pres ++ [ps]) (rs ++ [⟨rs.length, io, a, k⟩]) := by
  have hl : ∀ {p : Nat} {s : OI}, rs[p]? = some s → (rs ++ [(⟨rs.length, io, a, k⟩ : OI)])[p]? = some s := fun h => get_left h
  have two : ∀ (i : Nat) (ps' : List Nat) (r : OI), (pres ++ [ps])[i]? = some ps' → (rs ++ [(⟨rs.length, io, a, k⟩ : OI)])[i]? = some r → (pres[i]? = some ps' ∧ rs[i]? = some r) ∨ (i = rs.length ∧ ps' = ps ∧ r = ⟨rs.length, io, a, k⟩) := by
    intro i ps' r e1 e2
    rcases snoc_get e1 with e1 | ⟨e1, e3⟩ <;> rcases snoc_get e2 with e2 | ⟨e2, e4⟩
    · exact .inl ⟨e1, e2⟩
    · have := (List.getElem?_eq_some_iff.1 e1).1; rw [h.len2, ← h.len] at this; omega
    · have := (List.getElem?_eq_some_iff.1 e2).1; rw [h.len, ← h.len2] at this; omega
    · exact .inr ⟨e2, e3, e4⟩
  refine ⟨by simp [h.len], by simp [h.len2], fun i r hr => ?_, fun i ps' hp => ?_, fun i ps' r e1 e2 => ?_, fun i ps' r e1 e2 => ?_, fun i ps' r e1 e2 => ?_⟩
  · rcases snoc_get hr with hr | ⟨e1, e2⟩
    · exact ⟨(h.at_ i r hr).1, get_left (h.at_ i r hr).2⟩
    · subst e1 e2; exact ⟨rfl, by rw [h.len]; simp⟩
  · rcases snoc_get hp with hp | ⟨e1, e2⟩
    · exact h.acyc i ps' hp
    · subst e1 e2; rw [h.len2, ← h.len]; exact h1
  · rcases two i ps' r e1 e2 with ⟨e1, e2⟩ | ⟨e3, e4, e5⟩
    · intro q hq
      obtain ⟨p, hp, hor⟩ := h.up i ps' r e1 e2 q hq
      exact ⟨p, hp, hor.imp id fun ⟨s, k1, k2⟩ => ⟨s, hl k1, k2⟩⟩
    · subst e3 e4 e5
      intro q hq
      obtain ⟨p, hp, hor⟩ := (h2 q).1 hq
      exact ⟨p, hp, hor.imp id fun ⟨s, k1, k2⟩ => ⟨s, hl k1, k2⟩⟩
  · rcases two i ps' r e1 e2 with ⟨e1, e2⟩ | ⟨e3, e4, e5⟩
    · intro p hp
      obtain ⟨k1, s, k2, k3⟩ := h.down i ps' r e1 e2 p hp
      exact ⟨k1, s, hl k2, k3⟩
    · subst e3 e4 e5
      intro p hp
      refine ⟨(h2 p).2 ⟨p, hp, .inl rfl⟩, rs[p]'(h1 p hp), hl (by simp [h1 p hp]), fun q hq => (h2 q).2 ⟨p, hp, .inr ⟨_, by simp [h1 p hp], hq⟩⟩⟩
  · rcases two i ps' r e1 e2 with ⟨e1, e2⟩ | ⟨e3, e4, e5⟩
    · intro d hd
      obtain ⟨p, hp, s, k1, k2⟩ := h.wr i ps' r e1 e2 d hd
      exact ⟨p, hp, s, hl k1, k2⟩
    · subst e3 e4 e5
      intro d hd
      obtain ⟨p, hp, s, k1, k2⟩ := h4 d hd
      exact ⟨p, hp, s, hl k1, k2⟩

theorem pass1_ok : ∀ {ios : List Opr} {pres : List (List Nat)} {done : List Opr} {dpres : List (List Nat)} {acc : List OI} {len : Nat} {rs : List OI}, PassOk done dpres acc.reverse → acc.length = len →
    pass1 ios pres acc len = some rs → PassOk (done ++ ios) (dpres ++ pres) rs
  | [], [], done, dpres, acc, len, rs, h, hl, hp => by
    simp only [pass1, Option.some.injEq] at hp
    subst hp
    simpa using h
  | io :: ios, ps :: pres, done, dpres, acc, len, rs, h, hl, hp => by
    simp only [pass1] at hp
    split at hp <;> try cases hp
    rename_i a k hak
    obtain ⟨h1, h2, h3, h4⟩ := ancAt_ok hl hak
    have hlr : acc.reverse.length = len := by simpa using hl
    have := h.snoc (io := io) (ps := ps) (a := a) (k := k) (by rw [hlr]; exact h1) (fun q => by rw [h2 q]; simp [bit_0]) (fun d hd => (h4 d hd).resolve_left (by simp [bit_0]))
    rw [hlr] at this
    have e1 : done ++ io :: ios = (done ++ [io]) ++ ios := by simp
    have e2 : dpres ++ ps :: pres = (dpres ++ [ps]) ++ pres := by simp
    rw [e1, e2]
    exact pass1_ok (by simpa using this) (by simp [hl]) hp
  | [], _ :: _, _, _, _, _, _, _, _, hp => by simp [pass1] at hp
  | _ :: _, [], _, _, _, _, _, _, _, hp => by simp [pass1] at hp

theorem PassOk.alt {ios : List Opr} {pres : List (List Nat)} {rs : List OI} (h : PassOk ios pres rs) : ∀ (i : Nat) (r : OI), rs[i]? = some r → ∀ q, bitAt r.a q = true → q < i := by
  intro i
  induction i using Nat.strongRecOn with
  | _ i ih =>
    intro r hr q hq
    have hi := (List.getElem?_eq_some_iff.1 hr).1
    have hp : pres[i]? = some (pres[i]'(by rw [h.len2, ← h.len]; exact hi)) := by simp [h.len2, ← h.len, hi]
    obtain ⟨p, hpm, hor⟩ := h.up i _ r hp hr q hq
    have hpi := h.acyc i _ hp p hpm
    rcases hor with rfl | ⟨s, hs, hqs⟩
    · exact hpi
    · have := ih p hpi s hs q hqs; omega

theorem PassOk.ofK {ios : List Opr} {pres : List (List Nat)} {rs : List OI} (h : PassOk ios pres rs) : ∀ (i : Nat) (r : OI), rs[i]? = some r → ∀ d, bitAt r.k d = true → ∃ q s, bitAt r.a q = true ∧ rs[q]? = some s ∧ s.io.dst = some d := by
  intro i
  induction i using Nat.strongRecOn with
  | _ i ih =>
    intro r hr d hd
    have hi := (List.getElem?_eq_some_iff.1 hr).1
    have hp : pres[i]? = some (pres[i]'(by rw [h.len2, ← h.len]; exact hi)) := by simp [h.len2, ← h.len, hi]
    obtain ⟨p, hpm, s, hs, hor⟩ := h.wr i _ r hp hr d hd
    have hpi := h.acyc i _ hp p hpm
    obtain ⟨k1, s', k2, k3⟩ := h.down i _ r hp hr p hpm
    rw [hs] at k2; injection k2 with k2; subst k2
    rcases hor with hor | hor
    · exact ⟨p, s, k1, hs, hor⟩
    · obtain ⟨q, s2, e1, e2, e3⟩ := ih p hpi s hs d hor
      exact ⟨q, s2, k3 q e1, e2, e3⟩

theorem ndM_ok : ∀ {rs : List OI} {m : Nat}, ndM rs m = true → (∀ (i : Nat) (x : OI) (d : Nat), rs[i]? = some x → x.io.dst = some d → bitAt m d = false) ∧
    ∀ (i j : Nat) (x y : OI) (d : Nat), rs[i]? = some x → rs[j]? = some y → x.io.dst = some d → y.io.dst = some d → i = j
  | [], m, _ => ⟨by simp, by simp⟩
  | x :: l, m, h => by
    simp only [ndM] at h
    cases hd : x.io.dst with
    | none =>
      rw [hd] at h
      obtain ⟨h1, h2⟩ := ndM_ok h
      refine ⟨fun i y d hy he => ?_, fun i j y z d hy hz e1 e2 => ?_⟩
      · cases i with
        | zero => simp at hy; subst hy; rw [hd] at he; cases he
        | succ i => exact h1 i y d (by simpa using hy) he
      · cases i with
        | zero => simp at hy; subst hy; rw [hd] at e1; cases e1
        | succ i =>
          cases j with
          | zero => simp at hz; subst hz; rw [hd] at e2; cases e2
          | succ j => rw [h2 i j y z d (by simpa using hy) (by simpa using hz) e1 e2]
    | some d0 =>
      rw [hd] at h
      simp only at h
      split at h <;> try cases h
      rename_i hb
      obtain ⟨h1, h2⟩ := ndM_ok h
      have out : ∀ (i : Nat) (y : OI) (d : Nat), l[i]? = some y → y.io.dst = some d → bitAt m d = false ∧ d0 ≠ d := by
        intro i y d hy he
        have := h1 i y d hy he
        simp only [bit_or, bit_M, Bool.or_eq_false_iff, decide_eq_false_iff_not] at this
        exact this
      refine ⟨fun i y d hy he => ?_, fun i j y z d hy hz e1 e2 => ?_⟩
      · cases i with
        | zero => simp at hy; subst hy; rw [hd] at he; injection he with he; subst he; exact hb
        | succ i => exact (out i y d (by simpa using hy) he).1
      · cases i with
        | zero =>
          simp at hy; subst hy
          rw [hd] at e1; injection e1 with e1; subst e1
          cases j with
          | zero => rfl
          | succ j => exact absurd rfl (out j z d0 (by simpa using hz) e2).2
        | succ i =>
          cases j with
          | zero => simp at hz; subst hz; rw [hd] at e2; injection e2 with e2; subst e2; exact absurd rfl (out i y d0 (by simpa using hy) e1).2
          | succ j => rw [h2 i j y z d (by simpa using hy) (by simpa using hz) e1 e2]

theorem wAll_ok : ∀ {rs : List OI} {d : Nat}, bitAt (wAll rs) d = false → ∀ (i : Nat) (x : OI), rs[i]? = some x → x.io.dst ≠ some d
  | [], d, _, i, x, hx => by simp at hx
  | y :: l, d, h, i, x, hx => by
    simp only [wAll, bit_or, Bool.or_eq_false_iff] at h
    cases i with
    | zero => simp at hx; subst hx; intro e; have := (bit_dM _ _).2 e; rw [h.1] at this; cases this
    | succ i => exact wAll_ok h.2 i x (by simpa using hx)

theorem mem_lds {E : Env} {x : OI} : ∀ {rs : List OI}, x ∈ rs → qStat E x.io.op = false → x ∈ ldsOf E rs
  | [], h, _ => by cases h
  | y :: l, h, hq => by
    simp only [ldsOf]
    rcases List.mem_cons.1 h with rfl | h
    · rw [hq]; exact List.mem_cons_self ..
    · cases qStat E y.io.op with
      | true => exact mem_lds h hq
      | false => exact List.mem_cons_of_mem _ (mem_lds h hq)

end Go.Am
