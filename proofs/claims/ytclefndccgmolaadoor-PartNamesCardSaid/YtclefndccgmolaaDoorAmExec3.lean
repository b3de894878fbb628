/-
  AN EVALUATOR OVER ABSTRACT STATES: CODE. A general base for proofs: no program is named here.
-/
import Derived.Test.YtclefndccgmolaaDoorAmExec2
namespace Go.Am
open Go Go.RowKit

def ndB : List Opr → Bool
  | [] => true
  | io :: l => (match io.dst with
    | none => true
    | some d => l.all fun x => match x.dst with
      | some d' => !(d' == d)
      | none => true) && ndB l

theorem ndB_ok : ∀ {l : List Opr}, ndB l = true → ∀ (i j : Nat) (a b : Opr) (d : Nat), l[i]? = some a → l[j]? = some b → a.dst = some d → b.dst = some d → i = j
  | [], _, i, j, a, b, d, h1, _, _, _ => by simp at h1
  | x :: l, h, i, j, a, b, d, h1, h2, h3, h4 => by
    simp only [ndB, Bool.and_eq_true] at h
    have out : ∀ (k : Nat) (c : Opr), l[k]? = some c → x.dst = some d → c.dst = some d → False := by
      intro k c hk hx hc
      have := h.1
      rw [hx] at this
      have := List.all_eq_true.1 this c (List.mem_of_getElem? hk)
      rw [hc] at this
      simp at this
    cases i with
    | zero =>
      cases j with
      | zero => rfl
      | succ j =>
        simp at h1 h2; subst h1
        exact (out j b h2 h3 h4).elim
    | succ i =>
      cases j with
      | zero =>
        simp at h1 h2; subst h2
        exact (out i a h1 h4 h3).elim
      | succ j => rw [ndB_ok h.2 i j a b d (by simpa using h1) (by simpa using h2) h3 h4]

def chainB (tr : List Tr) : List Nat → Bool
  | l :: l' :: r => (match tr[l']? with
    | some t => t.anc.contains l
    | none => false) && chainB tr (l' :: r)
  | _ => true

theorem chainB_ok {tr : List Tr} : ∀ {ls : List Nat}, chainB tr ls = true → ∀ (m l l' : Nat), ls[m]? = some l → ls[m + 1]? = some l' → ∃ t : Tr, tr[l']? = some t ∧ l ∈ t.anc
  | [], _, m, l, l', h1, _ => by simp at h1
  | [x], _, m, l, l', h1, h2 => by simp at h2
  | x :: y :: r, h, m, l, l', h1, h2 => by
    simp only [chainB, Bool.and_eq_true] at h
    cases m with
    | zero =>
      simp at h1 h2; subst h1 h2
      have := h.1
      split at this
      · rename_i t ht; exact ⟨t, ht, by simpa using this⟩
      · cases this
    | succ m => exact chainB_ok h.2 m l l' (by simpa using h1) (by simpa using h2)

def fitsB (tr : List Tr) (i : Nat) (t : Tr) (j : Nat) : Nat → List Nat → Bool
  | _, [] => true
  | m, l :: r => (!t.anc.contains l || decide (m < j)) && (!(l == i) || decide (j ≤ m)) && (match tr[l]? with
    | some tl => !tl.anc.contains i || decide (j ≤ m)
    | none => true) && fitsB tr i t j (m + 1) r

theorem fitsB_of {tr : List Tr} {i : Nat} {t : Tr} {j : Nat} : ∀ (ls : List Nat) (k : Nat), (∀ m l, ls[m]? = some l → (l ∈ t.anc → k + m < j) ∧ (l = i → j ≤ k + m) ∧ ∀ tl, tr[l]? = some tl → i ∈ tl.anc → j ≤ k + m) → fitsB tr i t j k ls = true
  | [], _, _ => rfl
  | l :: r, k, h => by
    obtain ⟨h1, h2, h3⟩ := h 0 l rfl
    have ih := fitsB_of r (k + 1) fun m l hm => by
      have := h (m + 1) l (by simpa using hm)
      rw [show k + 1 + m = k + (m + 1) from by omega]; exact this
    simp only [fitsB, ih, Bool.and_true, Bool.and_eq_true]
    refine ⟨⟨?_, ?_⟩, ?_⟩
    · by_cases hc : l ∈ t.anc
      · have := h1 hc; simp; right; omega
      · simp [hc]
    · by_cases hc : l = i
      · have := h2 hc; simp; right; omega
      · simp [hc]
    · cases ht : tr[l]? with
      | none => rfl
      | some tl =>
        by_cases hc : i ∈ tl.anc
        · have := h3 tl ht hc; simp; right; omega
        · simp [hc]

def okAt (E : Env) (R : Rec) (B : AS) (io : Opr) (t : Tr) : Bool :=
  match wantedA B io with
  | some false => AV.beq t.v (.tup [])
  | some true => match quiet1 E R B io with
    | some v => AV.beq v t.v
    | none => false
  | none => false

/-- Each quiet operation gives the same at every heap at which it may come up. -/
def quietB (E : Env) (R : Rec) (S : AS) (rf : Nat → TM) (D : DR) (ios : List Opr) : Bool :=
  (List.range ios.length).all fun i => match ios[i]?, D.tr[i]? with
    | some io, some t => D.louds.contains i || (List.range D.heaps.length).all fun j => match D.heaps[j]? with
      | some H => !fitsB D.tr i t j 0 D.louds || okAt E R (S.base (rf i) D.tr t.anc H) io t
      | none => true
    | _, _ => false

/-- Who comes ahead of whom, from the text alone. -/
def ancs : List Opr → List (List Nat) → List Tr → List Tr
  | io :: ios, ps :: pres, tr => ancs ios pres (tr ++ [⟨io.dst, .top, ancOf tr ps⟩])
  | _, _, tr => tr

/-- What others may have written when operation i comes up. -/
def exdF (i : Nat) : Nat → List Tr → List Nat
  | _, [] => []
  | k, t :: l => match t.dst with
    | some d => if (k == i || t.anc.contains i) = true then exdF i (k + 1) l else d :: exdF i (k + 1) l
    | none => exdF i (k + 1) l

theorem mem_exdF {i d : Nat} : ∀ {l : List Tr} {k m : Nat} {t : Tr}, l[m]? = some t → t.dst = some d → k + m = i ∨ i ∈ t.anc ∨ d ∈ exdF i k l
  | [], k, m, t, h, _ => by simp at h
  | x :: l, k, m, t, h, hd => by
    cases m with
    | zero =>
      simp at h; subst h
      simp only [exdF, hd]
      split
      · rename_i hc
        simp only [Bool.or_eq_true, beq_iff_eq] at hc
        rcases hc with hc | hc
        · exact .inl hc
        · exact .inr (.inl (by simpa using hc))
      · exact .inr (.inr (List.mem_cons_self ..))
    | succ m =>
      have ih := mem_exdF (i := i) (k := k + 1) (l := l) (m := m) (by simpa using h) hd
      rcases ih with ih | ih | ih
      · exact .inl (by omega)
      · exact .inr (.inl ih)
      · right; right
        simp only [exdF]
        split
        · split
          · exact ih
          · exact List.mem_cons_of_mem _ ih
        · exact ih

def sameAnc : List Tr → List Tr → Bool
  | [], [] => true
  | a :: l, b :: m => decide (a.anc = b.anc) && decide (a.dst = b.dst) && sameAnc l m
  | _, _ => false

theorem sameAnc_ok : ∀ {a b : List Tr}, sameAnc a b = true → ∀ (i : Nat) (t : Tr), a[i]? = some t → ∃ t', b[i]? = some t' ∧ t'.anc = t.anc ∧ t'.dst = t.dst
  | [], [], _, i, t, h => by simp at h
  | x :: l, y :: m, h, i, t, ht => by
    simp only [sameAnc, Bool.and_eq_true, decide_eq_true_eq] at h
    cases i with
    | zero => simp at ht; subst ht; exact ⟨y, rfl, h.1.1.symm, h.1.2.symm⟩
    | succ i => simpa using sameAnc_ok h.2 i t (by simpa using ht)
  | [], _ :: _, h, _, _, _ => by simp [sameAnc] at h
  | _ :: _, [], h, _, _, _ => by simp [sameAnc] at h

def runDraw (P : Program) (E : Env) (R : Rec) (ios : List Opr) (pres : List (List Nat)) (S : AS) : Option AS :=
  let st := ancs ios pres []
  let rf := fun i => restT (exdF i 0 st) S.tmps
  match draw1 P E R S rf ios pres [] [] [] S.hs with
  | some D =>
    if ndB ios && ios.all (fun io => okDst S.size io.dst) && chainB D.tr D.louds && sameAnc D.tr st && quietB E R S rf D ios then
      match D.heaps[D.louds.length]? with
      | some H => some (S.base (restT (ios.filterMap (·.dst)) S.tmps) D.tr (List.range ios.length) H)
      | none => none
    else none
  | none => none

section
variable {P : Program} {w0 w : World} {N0 : Nat} {S S' S1 : AS} {rd : Option (Nat × Nat)} {Q : Exit → AS → Prop} {E : Env} {R : Rec} {io : Opr} {v : AV} {H : HS}

theorem runDraw_ok (hE : EnvOk P E) (hR : RecOk P R) {ios : List Opr} {pres : List (List Nat)} (h : runDraw P E R ios pres S = some S') : T P w0 N0 rd (.region ios (some pres)) S fun e1 S1 => e1 = .normal ∧ S1 = S' := by
  unfold runDraw at h
  simp only at h
  split at h <;> try cases h
  rename_i D hD
  split at h <;> try cases h
  rename_i hc
  simp only [Bool.and_eq_true] at hc
  obtain ⟨⟨⟨⟨c1, c2⟩, c3⟩, c5⟩, c4⟩ := hc
  split at h <;> try cases h
  rename_i Hn hHn
  generalize hrest : restT (ios.filterMap (·.dst)) S.tmps = rest at *
  generalize hrf : (fun i => restT (exdF i 0 (ancs ios pres [])) S.tmps) = rf at *
  have I0 : Inv1 P E R S rf [] [] [] [] [] S.hs := by
    refine ⟨rfl, rfl, rfl, rfl, ?_, ?_, ?_, ?_, ?_, ?_⟩
    · intro i io t h; simp at h
    · intro i ps h; simp at h
    · intro i ps t h; simp at h
    · intro i t h; simp at h
    · intro l h; simp at h
    · intro m l h; simp at h
  obtain ⟨hs, Hn', e1, I1⟩ := draw1_ok I0 hD
  simp only [List.nil_append] at I1
  refine T_draw hE.mix rf rest D.tr D.louds D.heaps ⟨I1.l1, fun i d v hv => ?_, fun d v hv => ?_, I1.l2, fun i io t h1 h2 => ⟨I1.dst i io t h1 h2, ?_⟩, ?_, I1.acyc, I1.anc, ?_, ?_, chainB_ok c3, I1.lob, ?_⟩ ?_
  · rw [← hrf] at hv
    obtain ⟨h1, h2⟩ := look_restT hv
    refine ⟨h1, fun k t ht hd => ?_⟩
    obtain ⟨t', e1, e2, e3⟩ := sameAnc_ok c5 k t ht
    rcases mem_exdF (i := i) (k := 0) e1 (e3.trans hd) with h3 | h3 | h3
    · exact .inl (by omega)
    · exact .inr (e2 ▸ h3)
    · rw [List.contains_eq_mem] at h2
      simp [h3] at h2
  · rw [← hrest] at hv
    obtain ⟨h1, h2⟩ := look_restT hv
    refine ⟨h1, fun i t ht e => ?_⟩
    have hi : i < ios.length := by rw [← I1.l1]; exact (List.getElem?_eq_some_iff.1 ht).1
    have hd := I1.dst i ios[i] t (by simp [hi]) ht
    have : d ∈ ios.filterMap (·.dst) := List.mem_filterMap.2 ⟨ios[i], List.getElem_mem hi, by rw [← hd]; exact e⟩
    rw [List.contains_eq_mem] at h2
    simp [this] at h2
  · exact List.all_eq_true.1 c2 io (List.mem_of_getElem? h1)
  · intro i j t t' d h1 h2 h3 h4
    have hi : i < ios.length := by rw [← I1.l1]; exact (List.getElem?_eq_some_iff.1 h1).1
    have hj : j < ios.length := by rw [← I1.l1]; exact (List.getElem?_eq_some_iff.1 h2).1
    exact ndB_ok c1 i j ios[i] ios[j] d (by simp [hi]) (by simp [hj]) (by rw [← I1.dst i ios[i] t (by simp [hi]) h1]; exact h3) (by rw [← I1.dst j ios[j] t' (by simp [hj]) h2]; exact h4)
  · rw [e1]; exact I1.h0
  · rw [e1]; simp [I1.l3]
  · intro i io t j H hio ht hH hfit
    by_cases hl : i ∈ D.louds
    · obtain ⟨m, hm, hmi⟩ := List.mem_iff_getElem.1 hl
      have hml : D.louds[m]? = some i := by rw [List.getElem?_eq_getElem hm, hmi]
      obtain ⟨io', t', H1, H2, k1, k2, k3, k4, k5, k6⟩ := I1.loud m i hml
      rw [hio] at k1; injection k1 with k1; subst k1
      rw [ht] at k2; injection k2 with k2; subst k2
      rw [← e1] at k3 k4
      have hj1 : j ≤ m := (hfit m i hml).2.1 rfl
      have hj2 : m ≤ j := by
        cases m with
        | zero => exact Nat.zero_le _
        | succ m =>
          have hm' : m < D.louds.length := by omega
          obtain ⟨t2, ht2, hin⟩ := chainB_ok c3 m D.louds[m] i (by simp [hm']) hml
          rw [ht] at ht2; injection ht2 with ht2; subst ht2
          exact (hfit m D.louds[m] (by simp [hm'])).1 hin
      obtain rfl : j = m := by omega
      rw [hH] at k3; injection k3 with k3; subst k3
      exact .inr ⟨k5, .inr ⟨hml, H2, k4, loud1_ok hR k6⟩⟩
    · have hi : i < ios.length := (List.getElem?_eq_some_iff.1 hio).1
      have := List.all_eq_true.1 c4 i (List.mem_range.2 hi)
      rw [hio, ht] at this
      simp only [Bool.or_eq_true] at this
      rcases this with h1 | h1
      · exact absurd (by simpa using h1) hl
      · have hj : j < D.heaps.length := (List.getElem?_eq_some_iff.1 hH).1
        have := List.all_eq_true.1 h1 j (List.mem_range.2 hj)
        rw [hH] at this
        have hf : fitsB D.tr i t j 0 D.louds = true := fitsB_of D.louds 0 fun m l hm => by
          have := hfit m l hm
          simpa using this
        simp only [hf, Bool.not_true, Bool.false_or] at this
        unfold okAt at this
        split at this
        · rename_i hw; exact .inl ⟨hl, hw, AV.eq_of_beq _ _ this⟩
        · rename_i hw
          split at this
          · rename_i v hq
            have := AV.eq_of_beq _ _ this
            subst this
            exact .inr ⟨hw, .inl ⟨hl, quiet1_ok hE hR hq⟩⟩
          · cases this
        · cases this
  · intro H hH
    rw [hHn] at hH; injection hH with hH; subst hH
    exact ⟨rfl, rfl⟩

end
end Go.Am
