/-
  REGIONS WHOSE ORDER IS DRAWN, RUN IN THE TEXT'S ORDER: the rule. A general base for proofs: no program is named here.
-/
import Derived.Test.YtclefndccgmolaaDoorAmStat2
namespace Go.Am
open Go Go.RowKit

section
variable {P : Program} {w0 w : World} {N0 : Nat} {S S' S1 : AS} {rd : Option (Nat × Nat)} {E : Env} {R : Rec} {io : Opr} {op : IOp} {v : AV} {H : HS}

theorem T_less {ic : IC} {Q Q' : Exit → AS → Prop} (h : T P w0 N0 rd ic S Q) (hq : ∀ e S1, Q e S1 → ∃ S2, Q' e S2 ∧ ∀ I a w, Rel w0 N0 I S1 a w → Rel w0 N0 I S2 a w) : T P w0 N0 rd ic S Q' := fun code hc n I a w r hr ho =>
  wpIn_mono (h code hc n I a w r hr ho) fun e a' w' ⟨I', S1, q, k1, k2⟩ => by
    obtain ⟨S2, q2, k3⟩ := hq e S1 q
    exact ⟨I', S2, q2, k3 _ _ _ k1, k2⟩

theorem StepR.kept {q ind run : Bool} (h : StepR P E R S io q ind v run S1) : S1.size = S.size ∧ S1.marks = S.marks ∧ S1.tmps = (S.put io.dst v).tmps ∧ (run = false → S1.hs = S.hs) ∧ (run = true → q = false) := by
  have p1 : ∀ S0 : AS, (S0.put io.dst v).size = S0.size ∧ (S0.put io.dst v).marks = S0.marks ∧ (S0.put io.dst v).hs = S0.hs := fun S0 => by cases io.dst <;> exact ⟨rfl, rfl, rfl⟩
  rcases h.ok with ⟨_, h2, _, rfl⟩ | ⟨_, _, h2, rfl, _⟩ | ⟨_, h1, h2, H, _, rfl⟩
  · exact ⟨(p1 S).1, (p1 S).2.1, rfl, fun _ => (p1 S).2.2, fun e => by rw [h2] at e; cases e⟩
  · exact ⟨(p1 S).1, (p1 S).2.1, rfl, fun _ => (p1 S).2.2, fun e => by rw [h2] at e; cases e⟩
  · refine ⟨(p1 _).1, (p1 _).2.1, ?_, fun e => (by rw [h2] at e; cases e), fun _ => h1⟩
    cases io.dst <;> rfl

theorem put_look {S : AS} {dst : Option Nat} {v x : AV} {d : Nat} (h : lookT d (S.put dst v).tmps = some x) : (dst = some d ∧ x = v) ∨ (dst ≠ some d ∧ lookT d S.tmps = some x) := by
  cases dst with
  | none => exact .inr ⟨by simp, h⟩
  | some k =>
    simp only [AS.put, lookT_putT] at h
    by_cases e : k = d
    · subst e; rw [if_pos rfl] at h; injection h with h; exact .inl ⟨rfl, h.symm⟩
    · rw [if_neg e] at h; exact .inr ⟨by simp; exact e, h⟩

theorem T_stat (hE : EnvOk P E) (hR : RecOk P R) {ios : List Opr} {pres : List (List Nat)} {fl : List (Bool × Bool)} (hst : statD E ios pres S.size = some fl) (h : runS P E R ios fl S = some S') :
    T P w0 N0 rd (.region ios (some pres)) S fun e1 S1 => e1 = .normal ∧ S1 = S' := by
  unfold statD at hst
  split at hst <;> try cases hst
  rename_i rs hrs
  split at hst <;> try cases hst
  rename_i hc
  simp only [Bool.and_eq_true] at hc
  obtain ⟨⟨⟨c1, c2⟩, c3⟩, c4⟩ := hc
  have hP : PassOk ios pres rs := by
    have := pass1_ok (ios := ios) (pres := pres) (done := []) (dpres := []) (acc := []) (len := 0) ⟨rfl, rfl, by simp, by simp, by simp, by simp, by simp⟩ rfl hrs
    simpa using this
  obtain ⟨_, hnd⟩ := ndM_ok c1
  obtain ⟨_, Ss, vs, rl, s0, sn, hstep⟩ := runS_tr h
  generalize hn : ios.length = n at *
  have rsAt : ∀ {i : Nat} {io : Opr}, ios[i]? = some io → ∃ r, rs[i]? = some r ∧ r.io = io ∧ r.idx = i := by
    intro i io hi
    have hlt : i < rs.length := by rw [hP.len]; exact (List.getElem?_eq_some_iff.1 hi).1
    refine ⟨rs[i], by simp [hlt], ?_, (hP.at_ i _ (by simp [hlt])).1⟩
    have := (hP.at_ i rs[i] (by simp [hlt])).2
    rw [hi] at this; injection this with this; exact this.symm
  have step : ∀ {i : Nat} {r : OI}, rs[i]? = some r → StepR P E R (Ss i) r.io (qStat E r.io.op) (!((ldsOf E rs).all fun y => bitAt r.a y.idx || bitAt y.a r.idx)) (vs i) (rl i) (Ss (i + 1)) := by
    intro i r hr
    exact hstep i r.io _ _ (hP.at_ i r hr).2 (by simp [flagOf, hr])
  have ltn : ∀ {i : Nat} {r : OI}, rs[i]? = some r → i < n := fun hr => by have := (List.getElem?_eq_some_iff.1 hr).1; rw [hP.len] at this; omega
  have atn : ∀ {i : Nat}, i < n → ∃ r, rs[i]? = some r := by
    intro i hi
    have : i < rs.length := by rw [hP.len]; omega
    exact ⟨rs[i], by simp [this]⟩
  -- what stays, what is known, and the heaps
  have keep : ∀ i, i ≤ n → (Ss i).size = S.size ∧ (Ss i).marks = S.marks := by
    intro i
    induction i with
    | zero => intro _; rw [s0]; exact ⟨rfl, rfl⟩
    | succ i ih =>
      intro hi
      obtain ⟨r, hr⟩ := atn (show i < n by omega)
      obtain ⟨k1, k2, _⟩ := (step hr).kept
      exact ⟨k1.trans (ih (by omega)).1, k2.trans (ih (by omega)).2⟩
  have info : ∀ i, i ≤ n → ∀ d v, lookT d (Ss i).tmps = some v → (∃ j r, j < i ∧ rs[j]? = some r ∧ r.io.dst = some d ∧ v = vs j) ∨ ((∀ j r, j < i → rs[j]? = some r → r.io.dst ≠ some d) ∧ lookT d S.tmps = some v) := by
    intro i
    induction i with
    | zero => intro _ d v hv; rw [s0] at hv; exact .inr ⟨fun j r hj => by omega, hv⟩
    | succ i ih =>
      intro hi d v hv
      obtain ⟨r, hr⟩ := atn (show i < n by omega)
      obtain ⟨_, _, k3, _⟩ := (step hr).kept
      rw [k3] at hv
      rcases put_look hv with ⟨e1, e2⟩ | ⟨e1, e2⟩
      · exact .inl ⟨i, r, by omega, hr, e1, e2⟩
      · rcases ih (by omega) d v e2 with ⟨j, r', h1, h2, h3, h4⟩ | ⟨h1, h2⟩
        · exact .inl ⟨j, r', by omega, h2, h3, h4⟩
        · refine .inr ⟨fun j r' hj hr' => ?_, h2⟩
          rcases Nat.lt_or_ge j i with hji | hji
          · exact h1 j r' hji hr'
          · obtain rfl : j = i := by omega
            rw [hr] at hr'; injection hr' with hr'; subst hr'; exact e1
  obtain ⟨louds, hlouds⟩ : ∃ l, l = upTo rl n := ⟨_, rfl⟩
  obtain ⟨heaps, hheaps⟩ : ∃ l : List HS, l = S.hs :: louds.map (fun l => (Ss (l + 1)).hs) := ⟨_, rfl⟩
  have heapAt : ∀ i, i ≤ n → heaps[(upTo rl i).length]? = some (Ss i).hs := by
    intro i
    induction i with
    | zero => intro _; rw [hheaps, s0]; rfl
    | succ i ih =>
      intro hi
      obtain ⟨r, hr⟩ := atn (show i < n by omega)
      obtain ⟨_, _, _, k4, _⟩ := (step hr).kept
      rw [upTo_succ]
      by_cases hrl : rl i = true
      · rw [if_pos hrl, List.length_append, List.length_singleton, hheaps, List.getElem?_cons_succ, List.getElem?_map, hlouds, upTo_at (show i < n by omega) hrl]
        rfl
      · rw [if_neg hrl, List.append_nil, k4 (by simpa using hrl)]
        exact ih (by omega)
  have ldm : ∀ {l : Nat}, l ∈ louds → ∃ r, rs[l]? = some r ∧ r ∈ ldsOf E rs ∧ r.idx = l := by
    intro l hl
    rw [hlouds] at hl
    obtain ⟨h1, h2⟩ := mem_upTo.1 hl
    obtain ⟨r, hr⟩ := atn h1
    obtain ⟨_, _, _, _, k5⟩ := (step hr).kept
    exact ⟨r, hr, mem_lds (List.mem_of_getElem? hr) (k5 h2), (hP.at_ l r hr).1⟩
  -- the record of the run
  obtain ⟨tr, htr⟩ : ∃ l : List Tr, l = rs.map (fun r => (⟨r.io.dst, vs r.idx, upTo (bitAt r.a) n⟩ : Tr)) := ⟨_, rfl⟩
  have trAt : ∀ {i : Nat} {r : OI}, rs[i]? = some r → tr[i]? = some ⟨r.io.dst, vs i, upTo (bitAt r.a) n⟩ := by
    intro i r hr
    rw [htr, List.getElem?_map, hr, ← (hP.at_ i r hr).1]; rfl
  have trGet : ∀ {i : Nat} {t : Tr}, tr[i]? = some t → ∃ r, rs[i]? = some r ∧ t = ⟨r.io.dst, vs i, upTo (bitAt r.a) n⟩ := by
    intro i t ht
    have hlt : i < rs.length := by have := (List.getElem?_eq_some_iff.1 ht).1; rw [htr, List.length_map] at this; exact this
    refine ⟨rs[i], by simp [hlt], ?_⟩
    have := trAt (i := i) (r := rs[i]) (by simp [hlt])
    rw [ht] at this; injection this
  have ancM : ∀ {i q : Nat} {r : OI}, rs[i]? = some r → (q ∈ upTo (bitAt r.a) n ↔ bitAt r.a q = true) := by
    intro i q r hr
    refine mem_upTo.trans ⟨fun h => h.2, fun h => ⟨?_, h⟩⟩
    have := hP.alt i r hr q h
    have := ltn hr
    omega
  have cnt : ∀ {i j : Nat} {r : OI}, rs[i]? = some r → j < heaps.length → Fits tr louds i ⟨r.io.dst, vs i, upTo (bitAt r.a) n⟩ j → (∀ y ∈ ldsOf E rs, y.idx ≠ i → bitAt r.a y.idx = true ∨ bitAt y.a i = true) → j = (upTo rl i).length := by
    intro i j r hr hj hfit hcomp
    have hin := ltn hr
    have hll : heaps.length = louds.length + 1 := by rw [hheaps]; simp
    rcases Nat.lt_trichotomy j (upTo rl i).length with h1 | h1 | h1
    · exfalso
      have hle : (upTo rl i).length ≤ louds.length := by
        obtain ⟨x, hx, _⟩ := upTo_pre rl n i (by omega)
        rw [hlouds, hx]; simp
      have hm : louds[j]? = some louds[j] := by simp [show j < louds.length by omega]
      have hli : louds[j] < i := (upTo_lt (p := rl) (n := n) (by omega) (by rw [← hlouds]; exact hm)).1 h1
      obtain ⟨y, hy, hyl, hyi⟩ := ldm (List.mem_of_getElem? hm)
      rcases hcomp y hyl (by rw [hyi]; omega) with h2 | h2
      · have := (hfit j _ hm).1 ((ancM hr).2 (by rw [← hyi]; exact h2))
        omega
      · have := hP.alt _ y hy i h2
        omega
    · exact h1
    · exfalso
      have hm : louds[(upTo rl i).length]? = some louds[(upTo rl i).length] := by simp [show (upTo rl i).length < louds.length by omega]
      have hge : ¬ louds[(upTo rl i).length] < i := fun hlt => by
        have := (upTo_lt (p := rl) (n := n) (by omega) (by rw [← hlouds]; exact hm)).2 hlt
        omega
      obtain ⟨y, hy, hyl, hyi⟩ := ldm (List.mem_of_getElem? hm)
      by_cases he : louds[(upTo rl i).length] = i
      · have := (hfit _ _ hm).2.1 he; omega
      · rcases hcomp y hyl (by rw [hyi]; exact he) with h2 | h2
        · have := hP.alt i r hr _ h2
          omega
        · have := (hfit _ _ hm).2.2 _ (trAt hy) ((ancM hy).2 h2)
          omega
  generalize hrf : (fun i => restT (exdF i 0 tr) S.tmps) = rf at *
  generalize hrest : restT (ios.filterMap (·.dst)) S.tmps = rest at *
  have chain : ∀ x ∈ ldsOf E rs, ∀ y ∈ ldsOf E rs, x.idx ≤ y.idx ∨ bitAt x.a y.idx = true := by
    intro x hx y hy
    have := List.all_eq_true.1 (List.all_eq_true.1 c3 x hx) y hy
    simp only [Bool.or_eq_true] at this
    exact this.imp Nat.le_of_ble_eq_true id
  have hll : heaps.length = louds.length + 1 := by rw [hheaps]; simp
  refine T_less (T_draw hE.mix rf rest tr louds heaps (Q := fun e1 S1 => e1 = .normal ∧ S1 = S.base rest tr (List.range ios.length) S'.hs) ⟨?_, ?_, ?_, ?_, ?_, ?_, hP.acyc, ?_, ?_, hll, ?_, ?_, ?_⟩ ?_) ?_
  · rw [htr, List.length_map, hP.len]
  · -- free
    intro i d v hv
    rw [← hrf] at hv
    obtain ⟨h1, h2⟩ := look_restT hv
    refine ⟨h1, fun k t ht hd => ?_⟩
    rcases mem_exdF (i := i) (k := 0) ht hd with h3 | h3 | h3
    · exact .inl (by omega)
    · exact .inr h3
    · rw [List.contains_eq_mem] at h2
      simp [h3] at h2
  · -- last
    intro d v hv
    rw [← hrest] at hv
    obtain ⟨h1, h2⟩ := look_restT hv
    refine ⟨h1, fun i t ht e => ?_⟩
    obtain ⟨r, hr, rfl⟩ := trGet ht
    have : d ∈ ios.filterMap (·.dst) := List.mem_filterMap.2 ⟨r.io, List.mem_of_getElem? (hP.at_ i r hr).2, e⟩
    rw [List.contains_eq_mem] at h2
    simp [this] at h2
  · exact hP.len2
  · intro i io t hi ht
    obtain ⟨r, hr, rfl⟩ := trGet ht
    obtain ⟨r', hr', e1, _⟩ := rsAt hi
    rw [hr] at hr'; injection hr' with hr'; subst hr'
    exact ⟨by rw [← e1], List.all_eq_true.1 c4 io (List.mem_of_getElem? hi)⟩
  · intro i j t t' d h1 h2 h3 h4
    obtain ⟨r, hr, rfl⟩ := trGet h1
    obtain ⟨r', hr', rfl⟩ := trGet h2
    exact hnd i j r r' d hr hr' h3 h4
  · intro i ps t hp ht q hq
    obtain ⟨r, hr, rfl⟩ := trGet ht
    obtain ⟨p, hpm, hor⟩ := hP.up i ps r hp hr q ((ancM hr).1 hq)
    exact ⟨p, hpm, hor.imp id fun ⟨s, k1, k2⟩ => ⟨_, trAt k1, (ancM k1).2 k2⟩⟩
  · rw [hheaps]; rfl
  · -- the heap's steps come one behind the other
    intro m l l' h1 h2
    obtain ⟨x, hx, hxl, hxi⟩ := ldm (List.mem_of_getElem? h1)
    obtain ⟨y, hy, hyl, hyi⟩ := ldm (List.mem_of_getElem? h2)
    refine ⟨_, trAt hy, (ancM hy).2 ?_⟩
    have hl' := (mem_upTo.1 (hlouds ▸ List.mem_of_getElem? h2)).1
    have c1' : m < (upTo rl l').length := by
      have h5 := (upTo_lt (p := rl) (n := n) (i := l' + 1) (by omega) (by rw [← hlouds]; exact h2)).2 (by omega)
      rw [upTo_succ] at h5
      simp at h5
      split at h5 <;> simp at h5 <;> omega
    have hlt : l < l' := (upTo_lt (p := rl) (n := n) (by omega) (by rw [← hlouds]; exact h1)).1 c1'
    rcases chain y hyl x hxl with h3 | h3
    · omega
    · rw [hxi] at h3; exact h3
  · intro l hl
    rw [hlouds] at hl
    have := (mem_upTo.1 hl).1
    omega
  · -- each step
    intro i io t j H hi ht hH hfit
    obtain ⟨r, hr, rfl⟩ := trGet ht
    obtain ⟨r', hr', e1, hidx⟩ := rsAt hi
    rw [hr] at hr'; injection hr' with hr'; subst hr'
    subst e1
    have hin := ltn hr
    have hj : j < heaps.length := (List.getElem?_eq_some_iff.1 hH).1
    obtain ⟨ks, km⟩ := keep i (by omega)
    have eqT : ∀ d ∈ readsO r.io, lookT d (restrT (Ss i).tmps (readsO r.io)) = (Ss i).get d := fun d hd => look_restrT hd
    have hinfo : ∀ d v, lookT d (restrT (Ss i).tmps (readsO r.io)) = some v → lookT d (S.base (rf i) tr (upTo (bitAt r.a) n) H).tmps = some v := by
      intro d v hv
      obtain ⟨hd, hv⟩ := restrT_look hv
      have hrd := List.all_eq_true.1 (List.all_eq_true.1 c2 r (List.mem_of_getElem? hr)) d hd
      simp only [Bool.or_eq_true, Bool.not_eq_true'] at hrd
      show lookT d (seen tr (rf i) (upTo (bitAt r.a) n)) = some v
      rcases info i (by omega) d v hv with ⟨j', r', h1, h2, h3, h4⟩ | ⟨h1, h2⟩
      · rcases hrd with hrd | hrd
        · exact absurd h3 (wAll_ok hrd j' r' h2)
        · obtain ⟨q, s, k1, k2, k3⟩ := hP.ofK i r hr d hrd
          obtain rfl := hnd _ _ _ _ d h2 k2 h3 k3
          refine seen_get ⟨j', (ancM hr).2 k1, _, trAt h2, h3⟩ fun p hp t ht hd' => ?_
          obtain ⟨r2, hr2, rfl⟩ := trGet ht
          obtain rfl := hnd _ _ _ _ d h2 hr2 h3 hd'
          exact h4.symm
      · have nobody : bitAt (wAll rs) d = false := by
          rcases hrd with hrd | hrd
          · exact hrd
          · obtain ⟨q, s, k1, k2, k3⟩ := hP.ofK i r hr d hrd
            exact absurd k3 (h1 q s (hP.alt i r hr q k1) k2)
        have no : ∀ (p : Nat) (t : Tr), tr[p]? = some t → t.dst ≠ some d := by
          intro p t ht
          obtain ⟨r2, hr2, rfl⟩ := trGet ht
          exact wAll_ok nobody p r2 hr2
        rw [seen_rest fun p _ t ht => no p t ht, ← hrf]
        show lookT d (restT (exdF i 0 tr) S.tmps) = some v
        rw [restT_get fun hm => by obtain ⟨m, t, k1, k2⟩ := exdF_mem hm; exact no m t k1 k2]
        exact h2
    have more : ∀ {B' : AS} {v : AV} {H' : HS}, B' = (((Ss i).withT (restrT (Ss i).tmps (readsO r.io))).withH H) → Stp P w0 N0 rd r.io B' (fun S2 v2 => v2 = v ∧ S2 = B'.withH H') → Stp P w0 N0 rd r.io (S.base (rf i) tr (upTo (bitAt r.a) n) H) fun S2 v2 => v2 = v ∧ S2 = (S.base (rf i) tr (upTo (bitAt r.a) n) H).withH H' := by
      intro B' v H' hB hs
      subst hB
      exact Stp.more (B' := ((Ss i).withT (restrT (Ss i).tmps (readsO r.io))).withH H) ks km rfl hinfo hs
    have wantB : ∀ {b : Bool}, wantedA (Ss i) r.io = some b → wantedA (S.base (rf i) tr (upTo (bitAt r.a) n) H) r.io = some b := by
      intro b hb
      refine wanted_more (B' := (Ss i).withT (restrT (Ss i).tmps (readsO r.io))) hinfo ?_
      rw [wanted_T eqT]; exact hb
    rcases (step hr).ok with ⟨h1, h2, h3, _⟩ | ⟨h1, h2, h3, _, h5, h6⟩ | ⟨h1, h2, h3, H1, h4, h5⟩
    · exact .inl ⟨fun hm => (by rw [hlouds] at hm; have := (mem_upTo.1 hm).2; rw [h2] at this; cases this), wantB h1, h3⟩
    · refine .inr ⟨wantB h1, .inl ⟨fun hm => (by rw [hlouds] at hm; have := (mem_upTo.1 hm).2; rw [h3] at this; cases this), ?_⟩⟩
      refine more (H' := H) rfl ?_
      have hq : quiet1 E R (((Ss i).withT (restrT (Ss i).tmps (readsO r.io))).withH H) r.io = some (vs i) := by
        by_cases hall : ((ldsOf E rs).all fun y => bitAt r.a y.idx || bitAt y.a r.idx) = true
        · have hjc := cnt hr hj hfit fun y hy _ => by
            have := List.all_eq_true.1 hall y hy
            rw [hidx] at this
            simpa using this
          have := heapAt i (by omega)
          rw [← hjc, hH] at this; injection this with this
          subst this
          have e2 := h6 (by rw [hall]; rfl)
          rw [← quiet1_T (E := E) (R := R) eqT] at e2
          exact e2
        · have e2 := h5 (by simpa using hall)
          rw [← stepI_T (E := E) (R := R) eqT] at e2
          exact stepI_quiet e2 H
      exact quiet1_ok hE hR hq
    · have hlm : louds[(upTo rl i).length]? = some i := by rw [hlouds]; exact upTo_at hin h3
      have hjc : j = (upTo rl i).length := cnt hr hj hfit fun y hy hne => by
        have hrl : r ∈ ldsOf E rs := mem_lds (List.mem_of_getElem? hr) h2
        rcases chain r hrl y hy with k | k
        · rcases chain y hy r hrl with k' | k'
          · omega
          · rw [hidx] at k'; exact .inr k'
        · exact .inl k
      have h0 := heapAt i (by omega)
      rw [← hjc, hH] at h0; injection h0 with h0
      subst h0
      refine .inr ⟨wantB h1, .inr ⟨by rw [hjc]; exact hlm, H1, ?_, ?_⟩⟩
      · have := heapAt (i + 1) (by omega)
        rw [upTo_succ, if_pos h3, List.length_append, List.length_singleton, ← hjc] at this
        rw [this, h5]
        cases r.io.dst <;> rfl
      · refine more (H' := H1) rfl ?_
        rw [← step1_T (P := P) (E := E) (R := R) eqT] at h4
        exact step1_ok hE hR h4
  · intro H hH
    have := heapAt n (Nat.le_refl _)
    rw [← hlouds, hH, sn] at this
    injection this with this
    exact ⟨rfl, by rw [this]⟩
  · intro e S1 ⟨he, hS1⟩
    refine ⟨S', ⟨he, rfl⟩, fun I a w hrel => ?_⟩
    subst hS1
    obtain ⟨ks, km⟩ := keep n (Nat.le_refl _)
    rw [sn] at ks km
    refine ⟨hrel.clk, ⟨by rw [ks]; exact hrel.tmps.1, fun d v hv => hrel.tmps.2 d v ?_⟩, hrel.hrel, by rw [km]; exact hrel.marks⟩
    show lookT d (seen tr rest (List.range ios.length)) = some v
    rw [← sn] at hv
    rcases info n (Nat.le_refl _) d v hv with ⟨j, r, h1, h2, h3, h4⟩ | ⟨h1, h2⟩
    · refine seen_get ⟨j, by rw [hn]; simpa using h1, _, trAt h2, h3⟩ fun p hp t ht hd' => ?_
      obtain ⟨r2, hr2, rfl⟩ := trGet ht
      obtain rfl := hnd _ _ _ _ d h2 hr2 h3 hd'
      exact h4.symm
    · rw [seen_rest fun p _ t ht => by obtain ⟨r2, hr2, rfl⟩ := trGet ht; exact h1 p r2 (ltn hr2) hr2, ← hrest, restT_get]
      · exact h2
      · intro hm
        obtain ⟨io, hio, hd⟩ := List.mem_filterMap.1 hm
        obtain ⟨i, hi, rfl⟩ := List.mem_iff_getElem.1 hio
        obtain ⟨r, hr, e1, _⟩ := rsAt (i := i) (io := ios[i]) (by simp [hi])
        exact h1 i r (by omega) hr (by rw [e1]; exact hd)

end
end Go.Am
