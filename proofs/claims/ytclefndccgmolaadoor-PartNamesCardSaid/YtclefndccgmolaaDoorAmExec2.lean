/-
  AN EVALUATOR OVER ABSTRACT STATES: REGIONS. A general base for proofs: no program is named here.
-/
import Derived.Test.YtclefndccgmolaaDoorAmExec
namespace Go.Am
open Go Go.RowKit

def step1 (P : Program) (E : Env) (R : Rec) (S : AS) (io : Opr) : Option (AV × HS) :=
  match quiet1 E R S io with
  | some v => some (v, S.hs)
  | none => loud1 P R S io

def runO (P : Program) (E : Env) (R : Rec) : List Opr → AS → Option AS
  | [], S => some S
  | io :: ios, S => match wantedA S io with
    | some true => match step1 P E R S io with
      | some (v, H) => if okDst S.size io.dst then runO P E R ios ((S.withH H).put io.dst v) else none
      | none => none
    | some false => if okDst S.size io.dst then runO P E R ios (S.put io.dst (.tup [])) else none
    | none => none

section
variable {P : Program} {w0 w : World} {N0 : Nat} {S S' S1 : AS} {rd : Option (Nat × Nat)} {Q : Exit → AS → Prop} {E : Env} {R : Rec} {io : Opr} {v : AV} {H : HS}

theorem AS.withH_hs : S.withH S.hs = S := rfl

theorem step1_ok (hE : EnvOk P E) (hR : RecOk P R) {H' : HS} (h : step1 P E R S io = some (v, H')) : Stp P w0 N0 rd io S fun S2 v2 => v2 = v ∧ S2 = S.withH H' := by
  unfold step1 at h
  split at h
  · rename_i v1 hq
    simp only [Option.some.injEq, Prod.mk.injEq] at h
    obtain ⟨rfl, rfl⟩ := h
    exact quiet1_ok hE hR hq
  · exact loud1_ok hR h

theorem runO_ok (hE : EnvOk P E) (hR : RecOk P R) : ∀ {ios : List Opr} {S S' : AS}, runO P E R ios S = some S' → TO P w0 N0 rd ios S fun S1 => S1 = S'
  | [], S, S', h => by
    simp only [runO, Option.some.injEq] at h
    exact TO_nil h
  | io :: ios, S, S', h => by
    simp only [runO] at h
    split at h
    · rename_i hw
      split at h <;> try cases h
      rename_i v H hst
      split at h <;> try cases h
      rename_i hd
      exact TO_cons (step1_ok hE hR hst) hw fun S2 v2 ⟨e1, e2⟩ => by subst e1 e2; exact ⟨hd, runO_ok hE hR h⟩
    · rename_i hw
      split at h <;> try cases h
      rename_i hd
      exact TO_skip hw hd (runO_ok hE hR h)
    · cases h

/-! ### Drawn -/

def unite : List Nat → List Nat → List Nat
  | [], m => m
  | x :: l, m => if (unite l m).contains x then unite l m else x :: unite l m

theorem mem_unite {x : Nat} : ∀ {l m : List Nat}, x ∈ unite l m → x ∈ l ∨ x ∈ m
  | [], m, h => .inr h
  | y :: l, m, h => by
    simp only [unite] at h
    split at h
    · rcases mem_unite h with h | h
      · exact .inl (List.mem_cons_of_mem _ h)
      · exact .inr h
    · rcases List.mem_cons.1 h with rfl | h
      · exact .inl (List.mem_cons_self ..)
      · rcases mem_unite h with h | h
        · exact .inl (List.mem_cons_of_mem _ h)
        · exact .inr h

def ancOf (tr : List Tr) : List Nat → List Nat
  | [] => []
  | p :: ps => unite (p :: (match tr[p]? with | some t => t.anc | none => [])) (ancOf tr ps)

theorem mem_ancOf {tr : List Tr} {q : Nat} : ∀ {ps : List Nat}, q ∈ ancOf tr ps → ∃ p ∈ ps, q = p ∨ ∃ t, tr[p]? = some t ∧ q ∈ t.anc
  | [], h => by simp [ancOf] at h
  | p :: ps, h => by
    rcases mem_unite h with h | h
    · rcases List.mem_cons.1 h with rfl | h
      · exact ⟨_, List.mem_cons_self .., .inl rfl⟩
      · refine ⟨p, List.mem_cons_self .., .inr ?_⟩
        cases ht : tr[p]? with
        | none => simp [ht] at h
        | some t => exact ⟨t, rfl, by simpa [ht] using h⟩
    · obtain ⟨p', h1, h2⟩ := mem_ancOf h
      exact ⟨p', List.mem_cons_of_mem _ h1, h2⟩

structure DR where
  tr : List Tr
  louds : List Nat
  heaps : List HS

/-- The operations in the text's order; what is loud is done once and for all here. -/
def draw1 (P : Program) (E : Env) (R : Rec) (S : AS) (rf : Nat → TM) : List Opr → List (List Nat) → List Tr → List Nat → List HS → HS → Option DR
  | [], [], tr, louds, heaps, H => some ⟨tr, louds, heaps ++ [H]⟩
  | io :: ios, ps :: pres, tr, louds, heaps, H =>
    if ps.all (fun p => decide (p < tr.length)) then
      let anc := ancOf tr ps
      let B := S.base (rf tr.length) tr anc H
      match wantedA B io with
      | some false => draw1 P E R S rf ios pres (tr ++ [⟨io.dst, .tup [], anc⟩]) louds heaps H
      | some true => match quiet1 E R B io with
        | some v => draw1 P E R S rf ios pres (tr ++ [⟨io.dst, v, anc⟩]) louds heaps H
        | none => match loud1 P R B io with
          | some (v, H') => draw1 P E R S rf ios pres (tr ++ [⟨io.dst, v, anc⟩]) (louds ++ [tr.length]) (heaps ++ [H]) H'
          | none => none
      | none => none
    else none
  | _, _, _, _, _, _ => none

theorem seen_prefix {tr tr' : List Tr} {rest : TM} : ∀ {l : List Nat}, (∀ p ∈ l, p < tr.length) → seen (tr ++ tr') rest l = seen tr rest l
  | [], _ => rfl
  | p :: l, h => by
    have hp : (tr ++ tr')[p]? = tr[p]? := List.getElem?_append_left (h p (List.mem_cons_self ..))
    simp only [seen, hp, seen_prefix fun q hq => h q (List.mem_cons_of_mem _ hq)]

theorem base_prefix {tr tr' : List Tr} {rest : TM} {l : List Nat} (h : ∀ p ∈ l, p < tr.length) : S.base rest (tr ++ tr') l H = S.base rest tr l H := by
  simp only [AS.base, seen_prefix h]

structure Inv1 (P : Program) (E : Env) (R : Rec) (S : AS) (rf : Nat → TM) (done : List Opr) (dpres : List (List Nat)) (tr : List Tr) (louds : List Nat) (heaps : List HS) (H : HS) : Prop where
  l1 : tr.length = done.length
  l2 : dpres.length = done.length
  l3 : heaps.length = louds.length
  h0 : (heaps ++ [H])[0]? = some S.hs
  dst : ∀ (i : Nat) (io : Opr) (t : Tr), done[i]? = some io → tr[i]? = some t → t.dst = io.dst
  acyc : ∀ (i : Nat) (ps : List Nat), dpres[i]? = some ps → ∀ p ∈ ps, p < i
  anc : ∀ (i : Nat) (ps : List Nat) (t : Tr), dpres[i]? = some ps → tr[i]? = some t → ∀ q ∈ t.anc, ∃ p ∈ ps, q = p ∨ ∃ t' : Tr, tr[p]? = some t' ∧ q ∈ t'.anc
  alt : ∀ (i : Nat) (t : Tr), tr[i]? = some t → ∀ q ∈ t.anc, q < i
  lob : ∀ l ∈ louds, l < done.length
  loud : ∀ (m l : Nat), louds[m]? = some l → ∃ io t H1 H2, done[l]? = some io ∧ tr[l]? = some t ∧ (heaps ++ [H])[m]? = some H1 ∧ (heaps ++ [H])[m + 1]? = some H2 ∧
    wantedA (S.base (rf l) tr t.anc H1) io = some true ∧ loud1 P R (S.base (rf l) tr t.anc H1) io = some (t.v, H2)

theorem get_snoc {α : Type} {l : List α} {x y : α} {i : Nat} (h : (l ++ [x])[i]? = some y) : l[i]? = some y ∨ (i = l.length ∧ y = x) := by
  rcases Nat.lt_trichotomy i l.length with h1 | h1 | h1
  · left; rwa [List.getElem?_append_left h1] at h
  · right; subst h1; simp at h; exact ⟨rfl, h.symm⟩
  · rw [List.getElem?_append_right (by omega)] at h
    have : i - l.length ≠ 0 := by omega
    rw [List.getElem?_cons] at h; simp [this] at h

theorem get_left {α : Type} {l m : List α} {y : α} {i : Nat} (h : l[i]? = some y) : (l ++ m)[i]? = some y := by
  rw [List.getElem?_append_left (List.getElem?_eq_some_iff.1 h).1]; exact h

theorem Inv1.step {rf : Nat → TM} {done : List Opr} {dpres : List (List Nat)} {tr : List Tr} {louds : List Nat} {heaps : List HS} (h : Inv1 P E R S rf done dpres tr louds heaps H) {ps : List Nat}
    (hps : ∀ p ∈ ps, p < tr.length) :
    (∀ q ∈ ancOf tr ps, q < tr.length) ∧
    ((∀ io v, Inv1 P E R S rf (done ++ [io]) (dpres ++ [ps]) (tr ++ [⟨io.dst, v, ancOf tr ps⟩]) louds heaps H) ∧
     (∀ io v H', wantedA (S.base (rf tr.length) tr (ancOf tr ps) H) io = some true → loud1 P R (S.base (rf tr.length) tr (ancOf tr ps) H) io = some (v, H') →
       Inv1 P E R S rf (done ++ [io]) (dpres ++ [ps]) (tr ++ [⟨io.dst, v, ancOf tr ps⟩]) (louds ++ [tr.length]) (heaps ++ [H]) H')) := by
  have hanc : ∀ q ∈ ancOf tr ps, q < tr.length := by
    intro q hq
    obtain ⟨p, hp, h1⟩ := mem_ancOf hq
    rcases h1 with rfl | ⟨t, ht, hqt⟩
    · exact hps _ hp
    · have := h.alt p t ht q hqt
      have := hps p hp
      omega
  have hdst : ∀ (io : Opr) (v : AV) (i : Nat) (io' : Opr) (t : Tr), (done ++ [io])[i]? = some io' → (tr ++ [⟨io.dst, v, ancOf tr ps⟩])[i]? = some t → t.dst = io'.dst := by
    intro io v i io' t h1 h2
    rcases get_snoc h1 with h1 | ⟨e1, e2⟩ <;> rcases get_snoc h2 with h2 | ⟨e3, e4⟩
    · exact h.dst i io' t h1 h2
    · have := (List.getElem?_eq_some_iff.1 h1).1; rw [← h.l1] at this; omega
    · have := (List.getElem?_eq_some_iff.1 h2).1; rw [h.l1] at this; omega
    · subst e2 e4; rfl
  have hacyc : ∀ (i : Nat) (ps' : List Nat), (dpres ++ [ps])[i]? = some ps' → ∀ p ∈ ps', p < i := by
    intro i ps' h1
    rcases get_snoc h1 with h1 | ⟨e1, e2⟩
    · exact h.acyc i ps' h1
    · subst e1 e2; rw [h.l2, ← h.l1]; exact hps
  have hanc2 : ∀ (io : Opr) (v : AV) (i : Nat) (ps' : List Nat) (t : Tr), (dpres ++ [ps])[i]? = some ps' → (tr ++ [(⟨io.dst, v, ancOf tr ps⟩ : Tr)])[i]? = some t → ∀ q ∈ t.anc, ∃ p ∈ ps', q = p ∨ ∃ t' : Tr, (tr ++ [(⟨io.dst, v, ancOf tr ps⟩ : Tr)])[p]? = some t' ∧ q ∈ t'.anc := by
    intro io v i ps' t h1 h2 q hq
    rcases get_snoc h1 with h1 | ⟨e1, e2⟩ <;> rcases get_snoc h2 with h2 | ⟨e3, e4⟩
    · obtain ⟨p, k1, k2⟩ := h.anc i ps' t h1 h2 q hq
      exact ⟨p, k1, k2.imp id fun ⟨t', k3, k4⟩ => ⟨t', get_left k3, k4⟩⟩
    · have := (List.getElem?_eq_some_iff.1 h1).1; rw [h.l2, ← h.l1] at this; omega
    · have := (List.getElem?_eq_some_iff.1 h2).1; rw [h.l1, ← h.l2] at this; omega
    · subst e2 e4
      obtain ⟨p, k1, k2⟩ := mem_ancOf hq
      exact ⟨p, k1, k2.imp id fun ⟨t', k3, k4⟩ => ⟨t', get_left k3, k4⟩⟩
  have halt : ∀ (io : Opr) (v : AV) (i : Nat) (t : Tr), (tr ++ [(⟨io.dst, v, ancOf tr ps⟩ : Tr)])[i]? = some t → ∀ q ∈ t.anc, q < i := by
    intro io v i t h2
    rcases get_snoc h2 with h2 | ⟨e3, e4⟩
    · exact h.alt i t h2
    · subst e3 e4; exact hanc
  have hloud : ∀ (io : Opr) (v : AV) (m l : Nat) (hs : List HS) (H' : HS), louds[m]? = some l → (∀ (k : Nat) (y : HS), (heaps ++ [H])[k]? = some y → (hs ++ [H'])[k]? = some y) → ∃ io' t H1 H2, (done ++ [io])[l]? = some io' ∧ (tr ++ [(⟨io.dst, v, ancOf tr ps⟩ : Tr)])[l]? = some t ∧ (hs ++ [H'])[m]? = some H1 ∧ (hs ++ [H'])[m + 1]? = some H2 ∧
      wantedA (S.base (rf l) (tr ++ [(⟨io.dst, v, ancOf tr ps⟩ : Tr)]) t.anc H1) io' = some true ∧ loud1 P R (S.base (rf l) (tr ++ [(⟨io.dst, v, ancOf tr ps⟩ : Tr)]) t.anc H1) io' = some (t.v, H2) := by
    intro io v m l hs H' hm hk
    obtain ⟨io', t, H1, H2, k1, k2, k3, k4, k5, k6⟩ := h.loud m l hm
    have hb : S.base (rf l) (tr ++ [(⟨io.dst, v, ancOf tr ps⟩ : Tr)]) t.anc H1 = S.base (rf l) tr t.anc H1 := base_prefix fun p hp => by
      have := h.alt l t k2 p hp
      have := (List.getElem?_eq_some_iff.1 k2).1
      omega
    exact ⟨io', t, H1, H2, get_left k1, get_left k2, hk _ _ k3, hk _ _ k4, by rw [hb]; exact k5, by rw [hb]; exact k6⟩
  refine ⟨hanc, fun io v => ⟨by simp [h.l1], by simp [h.l2], h.l3, h.h0, hdst io v, hacyc, hanc2 io v, halt io v, fun l hl => by have := h.lob l hl; simp; omega, fun m l hm => hloud io v m l heaps H hm fun k y hy => hy⟩,
    fun io v H' hw hl => ⟨by simp [h.l1], by simp [h.l2], by simp [h.l3], get_left h.h0, hdst io v, hacyc, hanc2 io v, halt io v, fun l hl => ?_, fun m l hm => ?_⟩⟩
  · rw [List.mem_append] at hl
    rcases hl with hl | hl
    · have := h.lob l hl; simp; omega
    · simp at hl; subst hl; simp [h.l1]
  · rcases get_snoc hm with hm | ⟨e1, e2⟩
    · exact hloud io v m l (heaps ++ [H]) H' hm fun k y hy => get_left hy
    · subst e1 e2
      have hb : S.base (rf tr.length) (tr ++ [(⟨io.dst, v, ancOf tr ps⟩ : Tr)]) (ancOf tr ps) H = S.base (rf tr.length) tr (ancOf tr ps) H := base_prefix hanc
      refine ⟨io, ⟨io.dst, v, ancOf tr ps⟩, H, H', by simp [h.l1], by simp, ?_, ?_, by rw [hb]; exact hw, by rw [hb]; exact hl⟩
      · rw [← h.l3]; simp []
      · rw [← h.l3]; simp []

theorem draw1_ok {rf : Nat → TM} {D : DR} : ∀ {ios : List Opr} {pres : List (List Nat)} {done : List Opr} {dpres : List (List Nat)} {tr : List Tr} {louds : List Nat} {heaps : List HS} {H : HS}, Inv1 P E R S rf done dpres tr louds heaps H →
    draw1 P E R S rf ios pres tr louds heaps H = some D → ∃ hs Hn, D.heaps = hs ++ [Hn] ∧ Inv1 P E R S rf (done ++ ios) (dpres ++ pres) D.tr D.louds hs Hn
  | [], [], done, dpres, tr, louds, heaps, H, hI, h => by
    simp only [draw1, Option.some.injEq] at h; subst h
    exact ⟨heaps, H, rfl, by simpa using hI⟩
  | io :: ios, ps :: pres, done, dpres, tr, louds, heaps, H, hI, h => by
    simp only [draw1] at h
    split at h <;> try cases h
    rename_i hps
    obtain ⟨k1, k2, k3⟩ := hI.step (ps := ps) fun p hp => by simpa using List.all_eq_true.1 hps p hp
    have e1 : done ++ io :: ios = (done ++ [io]) ++ ios := by simp
    have e2 : dpres ++ ps :: pres = (dpres ++ [ps]) ++ pres := by simp
    rw [e1, e2]
    split at h <;> try cases h
    · exact draw1_ok (k2 io _) h
    · rename_i hw
      split at h
      · exact draw1_ok (k2 io _) h
      · split at h <;> try cases h
        rename_i v H' hl
        exact draw1_ok (k3 io v H' hw hl) h
  | [], _ :: _, _, _, _, _, _, _, _, h => by simp [draw1] at h
  | _ :: _, [], _, _, _, _, _, _, _, h => by simp [draw1] at h

end
end Go.Am
