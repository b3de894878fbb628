/-
  REGIONS WHOSE ORDER IS DRAWN, RUN IN THE TEXT'S ORDER: why that is enough. A general base for proofs: no program is named here.
-/
import Derived.Test.YtclefndccgmolaaDoorAmStat
import Derived.Test.YtclefndccgmolaaDoorAmExec3
namespace Go.Am
open Go Go.RowKit

/-- One step of such a run. -/
structure StepR (P : Program) (E : Env) (R : Rec) (S : AS) (io : Opr) (q ind : Bool) (v : AV) (run : Bool) (S1 : AS) : Prop where
  ok : (wantedA S io = some false ∧ run = false ∧ v = .tup [] ∧ S1 = S.put io.dst v) ∨
    (wantedA S io = some true ∧ q = true ∧ run = false ∧ S1 = S.put io.dst v ∧ (ind = true → stepI E R S io = some v) ∧ (ind = false → quiet1 E R S io = some v)) ∨
    (wantedA S io = some true ∧ q = false ∧ run = true ∧ ∃ H, step1 P E R S io = some (v, H) ∧ S1 = (S.withH H).put io.dst v)

section
variable {P : Program} {w0 w : World} {N0 : Nat} {S S' S1 : AS} {T : TM} {rd : Option (Nat × Nat)} {E : Env} {R : Rec} {io : Opr} {op : IOp} {v : AV} {H : HS}

theorem runS_tr : ∀ {ios : List Opr} {fl : List (Bool × Bool)} {S S' : AS}, runS P E R ios fl S = some S' → fl.length = ios.length ∧
    ∃ (Ss : Nat → AS) (vs : Nat → AV) (rl : Nat → Bool), Ss 0 = S ∧ Ss ios.length = S' ∧
      ∀ (i : Nat) (io : Opr) (q ind : Bool), ios[i]? = some io → fl[i]? = some (q, ind) → StepR P E R (Ss i) io q ind (vs i) (rl i) (Ss (i + 1))
  | [], [], S, S', h => by
    simp only [runS, Option.some.injEq] at h
    exact ⟨rfl, fun _ => S, fun _ => .top, fun _ => false, rfl, h, by simp⟩
  | io :: ios, (q, ind) :: fl, S, S', h => by
    have go : ∀ {v : AV} {run : Bool} {S1 : AS}, StepR P E R S io q ind v run S1 → runS P E R ios fl S1 = some S' → ((q, ind) :: fl).length = (io :: ios).length ∧
        ∃ (Ss : Nat → AS) (vs : Nat → AV) (rl : Nat → Bool), Ss 0 = S ∧ Ss (io :: ios).length = S' ∧
          ∀ (i : Nat) (io' : Opr) (q' ind' : Bool), (io :: ios)[i]? = some io' → ((q, ind) :: fl)[i]? = some (q', ind') → StepR P E R (Ss i) io' q' ind' (vs i) (rl i) (Ss (i + 1)) := by
      intro v run S1 hs hr
      obtain ⟨h1, Ss, vs, rl, h2, h3, h4⟩ := runS_tr hr
      refine ⟨by simp [h1], fun i => match i with | 0 => S | i + 1 => Ss i, fun i => match i with | 0 => v | i + 1 => vs i, fun i => match i with | 0 => run | i + 1 => rl i, rfl, h3, fun i io' q' ind' e1 e2 => ?_⟩
      cases i with
      | zero =>
        simp at e1 e2
        obtain ⟨e2, e3⟩ := e2
        subst e1 e2 e3
        show StepR P E R S io q ind v run (Ss 0)
        rw [h2]; exact hs
      | succ i => exact h4 i io' q' ind' (by simpa using e1) (by simpa using e2)
    simp only [runS] at h
    split at h
    · rename_i hw
      split at h
      · rename_i hq
        split at h <;> try cases h
        rename_i v hv
        exact go (run := false) ⟨.inr (.inl ⟨hw, hq, rfl, rfl, fun hi => by rw [if_pos hi] at hv; exact hv, fun hi => by rw [if_neg (by rw [hi]; simp)] at hv; exact hv⟩)⟩ h
      · rename_i hq
        split at h <;> try cases h
        rename_i v H hv
        exact go (run := true) ⟨.inr (.inr ⟨hw, by simpa using hq, rfl, H, hv, rfl⟩)⟩ h
    · rename_i hw
      exact go (run := false) ⟨.inl ⟨hw, rfl, rfl, rfl⟩⟩ h
    · cases h
  | [], _ :: _, _, _, h => by simp [runS] at h
  | _ :: _, [], _, _, h => by simp [runS] at h

/-- A contract where less is known holds where more is. -/
theorem Stp.more {B B' : AS} {H' : HS} (hs : B'.size = B.size) (hm : B'.marks = B.marks) (hh : B'.hs = B.hs) (hi : ∀ d v, lookT d B'.tmps = some v → lookT d B.tmps = some v)
    (h : Stp P w0 N0 rd io B' fun S2 v2 => v2 = v ∧ S2 = B'.withH H') : Stp P w0 N0 rd io B fun S2 v2 => v2 = v ∧ S2 = B.withH H' := by
  intro ops o hc n I a w r next Qc hR ho hk
  obtain ⟨size, tmps, heap, nx, clk, marks⟩ := B
  obtain ⟨size', tmps', heap', nx', clk', marks'⟩ := B'
  simp only [AS.hs, HS.mk.injEq] at hs hm hh hi
  obtain ⟨rfl, rfl, rfl⟩ := hh
  subst hs hm
  refine h ops o hc n I a w r next Qc ⟨hR.clk, ⟨hR.tmps.1, fun d v hv => hR.tmps.2 d v (hi d v hv)⟩, hR.hrel, hR.marks⟩ ho fun I' S1 v' u w' ⟨e1, e2⟩ hR' hV hE => ?_
  subst e1 e2
  exact hk I' _ v' u w' ⟨rfl, rfl⟩ ⟨hR'.clk, hR.tmps.evo hE, hR'.hrel, hR'.marks⟩ hV hE

theorem wanted_more {B B' : AS} {b : Bool} (hi : ∀ d v, lookT d B'.tmps = some v → lookT d B.tmps = some v) (h : wantedA B' io = some b) : wantedA B io = some b := by
  unfold wantedA at h ⊢
  cases hg : io.guard with
  | none => rw [hg] at h; exact h
  | some x =>
    obtain ⟨d, c⟩ := x
    rw [hg] at h
    dsimp only at h ⊢
    split at h
    · rename_i y hy; rw [show B.get d = some (.bool y) from hi d _ hy]; exact h
    · rename_i vs hy; rw [show B.get d = some (.tup vs) from hi d _ hy]; exact h
    · cases h

theorem seen_get {tr : List Tr} {rest : TM} {d : Nat} {v : AV} : ∀ {l : List Nat}, (∃ p ∈ l, ∃ t, tr[p]? = some t ∧ t.dst = some d) → (∀ p ∈ l, ∀ t, tr[p]? = some t → t.dst = some d → t.v = v) → lookT d (seen tr rest l) = some v
  | [], h, _ => by obtain ⟨p, hp, _⟩ := h; cases hp
  | p :: l, h, hv => by
    simp only [seen]
    cases ht : tr[p]? with
    | none =>
      simp only
      obtain ⟨p', hp', t, h1, h2⟩ := h
      rcases List.mem_cons.1 hp' with rfl | hp'
      · rw [ht] at h1; cases h1
      · exact seen_get ⟨p', hp', t, h1, h2⟩ fun q hq => hv q (List.mem_cons_of_mem _ hq)
    | some t0 =>
      simp only
      have rest' : t0.dst ≠ some d → lookT d (seen tr rest l) = some v := by
        intro hne
        obtain ⟨p', hp', t, h1, h2⟩ := h
        rcases List.mem_cons.1 hp' with rfl | hp'
        · rw [ht] at h1; injection h1 with h1; subst h1; exact absurd h2 hne
        · exact seen_get ⟨p', hp', t, h1, h2⟩ fun q hq => hv q (List.mem_cons_of_mem _ hq)
      cases hd : t0.dst with
      | none => exact rest' (by rw [hd]; simp)
      | some d0 =>
        simp only [lookT_putT]
        by_cases e : d0 = d
        · subst e
          rw [if_pos rfl, hv p (List.mem_cons_self ..) t0 ht hd]
        · rw [if_neg e]
          exact rest' (by rw [hd]; simp; exact e)

theorem seen_rest {tr : List Tr} {rest : TM} {d : Nat} : ∀ {l : List Nat}, (∀ p ∈ l, ∀ t, tr[p]? = some t → t.dst ≠ some d) → lookT d (seen tr rest l) = lookT d rest
  | [], _ => rfl
  | p :: l, h => by
    have ih := seen_rest (tr := tr) (rest := rest) (d := d) (l := l) fun q hq => h q (List.mem_cons_of_mem _ hq)
    simp only [seen]
    split
    · rename_i t ht
      split
      · rename_i d0 hd
        rw [lookT_putT, if_neg (fun e => h p (List.mem_cons_self ..) t ht (by rw [hd, e])), ih]
      · exact ih
    · exact ih

theorem restT_get {d : Nat} : ∀ {ds : List Nat} {t : TM}, d ∉ ds → lookT d (restT ds t) = lookT d t
  | [], _, _ => rfl
  | k :: ds, t, h => by
    simp only [restT, lookT_setT]
    rw [if_neg (fun e => h (by rw [e]; exact List.mem_cons_self ..)), restT_get fun hd => h (List.mem_cons_of_mem _ hd)]

theorem exdF_mem {i d : Nat} : ∀ {l : List Tr} {k : Nat}, d ∈ exdF i k l → ∃ (m : Nat) (t : Tr), l[m]? = some t ∧ t.dst = some d
  | [], k, h => by simp [exdF] at h
  | t :: l, k, h => by
    have tail : d ∈ exdF i (k + 1) l → ∃ (m : Nat) (t' : Tr), (t :: l)[m]? = some t' ∧ t'.dst = some d := fun h => by
      obtain ⟨m, t', h1, h2⟩ := exdF_mem h
      exact ⟨m + 1, t', by simpa using h1, h2⟩
    simp only [exdF] at h
    split at h
    · rename_i d' hd
      split at h
      · exact tail h
      · rcases List.mem_cons.1 h with rfl | h
        · exact ⟨0, t, rfl, hd⟩
        · exact tail h
    · exact tail h

/-- The places below n whose bit is set, ascending. -/
def upTo (p : Nat → Bool) (n : Nat) : List Nat := (List.range n).filter p

theorem mem_upTo {p : Nat → Bool} {n x : Nat} : x ∈ upTo p n ↔ x < n ∧ p x = true := by simp [upTo]

theorem upTo_succ (p : Nat → Bool) (n : Nat) : upTo p (n + 1) = upTo p n ++ (if p n = true then [n] else []) := by
  simp only [upTo, List.range_succ, List.filter_append]
  congr 1
  by_cases h : p n = true <;> simp [h]

theorem upTo_pre (p : Nat → Bool) : ∀ (n i : Nat), i ≤ n → ∃ r, upTo p n = upTo p i ++ r ∧ ∀ x ∈ r, i ≤ x
  | 0, i, h => ⟨[], by rw [show i = 0 by omega]; simp, by simp⟩
  | n + 1, i, h => by
    by_cases e : i = n + 1
    · exact ⟨[], by rw [e]; simp, by simp⟩
    · obtain ⟨r, hr, hx⟩ := upTo_pre p n i (by omega)
      refine ⟨r ++ (if p n = true then [n] else []), by rw [upTo_succ, hr, List.append_assoc], fun x hm => ?_⟩
      rcases List.mem_append.1 hm with hm | hm
      · exact hx x hm
      · split at hm
        · simp at hm; omega
        · cases hm

theorem upTo_at {p : Nat → Bool} {n i : Nat} (hi : i < n) (hp : p i = true) : (upTo p n)[(upTo p i).length]? = some i := by
  obtain ⟨r, hr, _⟩ := upTo_pre p n (i + 1) hi
  rw [hr, upTo_succ, if_pos hp]
  simp

theorem upTo_lt {p : Nat → Bool} {n i m l : Nat} (hi : i ≤ n) (hm : (upTo p n)[m]? = some l) : m < (upTo p i).length ↔ l < i := by
  obtain ⟨r, hr, hx⟩ := upTo_pre p n i hi
  rw [hr] at hm
  constructor
  · intro h
    rw [List.getElem?_append_left h] at hm
    exact (mem_upTo.1 (List.mem_of_getElem? hm)).1
  · intro h
    rcases Nat.lt_or_ge m (upTo p i).length with h1 | h1
    · exact h1
    · rw [List.getElem?_append_right h1] at hm
      have := hx l (List.mem_of_getElem? hm)
      omega

end
end Go.Am
