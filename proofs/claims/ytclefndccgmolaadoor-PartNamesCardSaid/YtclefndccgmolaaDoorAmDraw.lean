/-
  REGIONS WHOSE ORDER IS DRAWN. A general base for proofs: no program is named here.
-/
import Derived.Test.YtclefndccgmolaaDoorAmRange
import Derived.OrdersIn
namespace Go.Am
open Go Go.RowKit

def Same (S S1 : AS) : Prop := S1.size = S.size ∧ S1.tmps = S.tmps ∧ S1.marks = S.marks

theorem Same.eq {S S1 : AS} (h : Same S S1) : S1 = S.withH S1.hs := by
  obtain ⟨a, b, c, d, e, f⟩ := S1
  obtain ⟨h1, h2, h3⟩ := h
  simp only at h1 h2 h3
  subst h1 h2 h3
  rfl

theorem store_same {S S1 : AS} {p : AV} {vs : List AV} (h : S.store p vs = some S1) : Same S S1 := by
  unfold AS.store at h
  repeat' (split at h)
  all_goals simp only [Option.some.injEq, reduceCtorEq] at h
  subst h; exact ⟨rfl, rfl, rfl⟩

theorem append_same {S S1 : AS} {sz bytes : Nat} {sv v : AV} {es : List (List AV)} (h : appendS S sz bytes sv es = some (v, S1)) : Same S S1 := by
  unfold appendS at h
  repeat' (split at h)
  all_goals simp only [Option.some.injEq, Prod.mk.injEq, reduceCtorEq] at h
  all_goals (obtain ⟨_, rfl⟩ := h; exact ⟨rfl, rfl, rfl⟩)

theorem appendz_same {S S1 : AS} {sz bytes : Nat} {z : List AV} {sv v : AV} {n : Int} (h : appendZ S sz bytes z sv n = some (v, S1)) : Same S S1 := by
  unfold appendZ at h
  repeat' (split at h)
  all_goals simp only [Option.some.injEq, Prod.mk.injEq, reduceCtorEq] at h
  all_goals (obtain ⟨_, rfl⟩ := h; exact ⟨rfl, rfl, rfl⟩)

theorem mapset_same {S S1 : AS} {kd : EqK} {m k v : AV} (h : S.mapset kd m k v = some S1) : Same S S1 := by
  unfold AS.mapset at h
  repeat' (split at h)
  all_goals simp only [Option.map_eq_some_iff, reduceCtorEq] at h
  obtain ⟨_, _, rfl⟩ := h
  exact ⟨rfl, rfl, rfl⟩

theorem iop_same {S S1 : AS} {op : IOp} {v : AV} (h : iop S op = some (v, S1)) : S1 = S.withH S1.hs := by
  refine Same.eq ?_
  cases op <;> simp only [iop] at h
  case append =>
    repeat' (split at h)
    all_goals first | exact append_same h | cases h
  case mapset =>
    repeat' (split at h)
    all_goals simp only [Option.map_eq_some_iff, Prod.mk.injEq, reduceCtorEq] at h
    obtain ⟨a, h1, _, h2⟩ := h
    subst h2; exact mapset_same h1
  case appendz =>
    repeat' (split at h)
    all_goals first | exact appendz_same h | cases h
  case store =>
    repeat' (split at h)
    all_goals simp only [Option.map_eq_some_iff, Prod.mk.injEq, reduceCtorEq] at h
    obtain ⟨a, h1, _, h2⟩ := h
    subst h2; exact store_same h1
  all_goals (repeat' (split at h)) <;> simp only [Option.map_eq_some_iff, Option.some.injEq, Prod.mk.injEq, reduceCtorEq] at h
  all_goals first
      | (obtain ⟨_, rfl⟩ := h; exact ⟨rfl, rfl, rfl⟩)
      | (obtain ⟨_, _, _, rfl⟩ := h; exact ⟨rfl, rfl, rfl⟩)

/-! ### What is known in a region of which some operations are done -/

structure Tr where
  dst : Option Nat
  v : AV
  anc : List Nat

def restT : List Nat → TM → TM
  | [], t => t
  | d :: ds, t => setT d none (restT ds t)

theorem look_restT {d : Nat} {v : AV} : ∀ {ds : List Nat} {t : TM}, lookT d (restT ds t) = some v → lookT d t = some v ∧ ds.contains d = false
  | [], t, h => ⟨h, rfl⟩
  | k :: ds, t, h => by
    simp only [restT, lookT_setT] at h
    split at h
    · cases h
    · rename_i hk
      obtain ⟨h1, h2⟩ := look_restT h
      refine ⟨h1, ?_⟩
      have : d ≠ k := fun e => hk e.symm
      simpa [this] using h2

def seen (tr : List Tr) (rest : TM) : List Nat → TM
  | [] => rest
  | p :: l => match tr[p]? with
    | some t => match t.dst with
      | some d => putT d t.v (seen tr rest l)
      | none => seen tr rest l
    | none => seen tr rest l

theorem look_seen {tr : List Tr} {rest : TM} {d : Nat} {v : AV} : ∀ {l : List Nat}, lookT d (seen tr rest l) = some v → (∃ p t, p ∈ l ∧ tr[p]? = some t ∧ t.dst = some d ∧ t.v = v) ∨ lookT d rest = some v
  | [], h => .inr h
  | p :: l, h => by
    have ih : lookT d (seen tr rest l) = some v → (∃ p' t, p' ∈ p :: l ∧ tr[p']? = some t ∧ t.dst = some d ∧ t.v = v) ∨ lookT d rest = some v := fun h => by
      rcases look_seen h with ⟨p', t, h1, h2⟩ | h
      · exact .inl ⟨p', t, List.mem_cons_of_mem _ h1, h2⟩
      · exact .inr h
    simp only [seen] at h
    split at h
    · rename_i t ht
      split at h
      · rename_i d' hd
        simp only [lookT_putT] at h
        split at h
        · rename_i e; subst e
          injection h with h
          exact .inl ⟨p, t, List.mem_cons_self .., ht, hd, h⟩
        · exact ih h
      · exact ih h
    · exact ih h

/-- The state in which an operation is tried: what is sure of the temporaries, and a heap. -/
def AS.base (S : AS) (rest : TM) (tr : List Tr) (l : List Nat) (H : HS) : AS := ⟨S.size, seen tr rest l, H.heap, H.next, H.clk, S.marks⟩

theorem cnt_le (p q : Nat → Bool) : ∀ l : List Nat, (∀ x ∈ l, q x = true → p x = true) → (l.filter q).length ≤ (l.filter p).length
  | [], _ => Nat.le_refl _
  | x :: l, h => by
    have ih := cnt_le p q l fun y hy => h y (List.mem_cons_of_mem _ hy)
    simp only [List.filter_cons]
    cases hq : q x with
    | true => rw [h x (List.mem_cons_self ..) hq]; simp; exact ih
    | false => cases p x <;> simp <;> omega

theorem cnt_lt (p q : Nat → Bool) (i : Nat) (h1 : p i = true) (h2 : q i = false) : ∀ l : List Nat, (∀ x ∈ l, q x = true → p x = true) → i ∈ l → (l.filter q).length < (l.filter p).length
  | [], _, hi => by cases hi
  | x :: l, h, hi => by
    have ihle := cnt_le p q l fun y hy => h y (List.mem_cons_of_mem _ hy)
    by_cases e : i = x
    · subst e
      simp only [List.filter_cons, h1, h2]
      simp; omega
    · have ih := cnt_lt p q i h1 h2 l (fun y hy => h y (List.mem_cons_of_mem _ hy)) (by simpa [e] using hi)
      simp only [List.filter_cons]
      cases hq : q x with
      | true => rw [h x (List.mem_cons_self ..) hq]; simp; exact ih
      | false => cases p x <;> simp <;> omega

section
variable {P : Program} {w0 w : World} {N0 : Nat} {I : LI} {S S' S1 : AS} {a : Act} {rd : Option (Nat × Nat)} {Q : Exit → AS → Prop}

/-- How many of the heap's steps may be done when operation i comes up. -/
def Fits (tr : List Tr) (louds : List Nat) (i : Nat) (t : Tr) (j : Nat) : Prop :=
  ∀ m l, louds[m]? = some l → (l ∈ t.anc → m < j) ∧ (l = i → j ≤ m) ∧ ∀ tl, tr[l]? = some tl → i ∈ tl.anc → j ≤ m

/-- What an operation of a drawn region does, at every heap at which it may come up. -/
def StepOk (P : Program) (w0 : World) (N0 : Nat) (rd : Option (Nat × Nat)) (S : AS) (rf : Nat → TM) (tr : List Tr) (louds : List Nat) (heaps : List HS) (i : Nat) (io : Opr) (t : Tr) (j : Nat) (H : HS) : Prop :=
  (i ∉ louds ∧ wantedA (S.base (rf i) tr t.anc H) io = some false ∧ t.v = .tup []) ∨
  (wantedA (S.base (rf i) tr t.anc H) io = some true ∧
    ((i ∉ louds ∧ Stp P w0 N0 rd io (S.base (rf i) tr t.anc H) fun S2 v2 => v2 = t.v ∧ S2 = S.base (rf i) tr t.anc H) ∨
     (louds[j]? = some i ∧ ∃ H', heaps[j + 1]? = some H' ∧ Stp P w0 N0 rd io (S.base (rf i) tr t.anc H) fun S2 v2 => v2 = t.v ∧ S2 = S.base (rf i) tr t.anc H')))

structure DInv (w0 : World) (N0 : Nat) (rd : Option (Nat × Nat)) (r : Option Nat) (S : AS) (tr : List Tr) (louds : List Nat) (heaps : List HS) (I0 : LI) (w00 : World) (listed : Array Bool) (a : Act) (w : World) : Prop where
  len : listed.size = tr.length
  down : ∀ i t, listed.getD i false = true → tr[i]? = some t → ∀ p ∈ t.anc, listed.getD p false = true
  ex : ∃ (I : LI) (j : Nat) (H : HS), heaps[j]? = some H ∧ (∀ m l, louds[m]? = some l → (listed.getD l false = true ↔ m < j)) ∧
    I.clk = H.clk ∧ HRel w0 N0 I H.heap H.next w ∧ DRel I H.heap S.marks a.defers ∧ a.tmps.size = S.size ∧
    (∀ d v, lookT d S.tmps = some v → (∀ (k : Nat) (t : Tr), tr[k]? = some t → t.dst = some d → listed.getD k false = false) → VRel w I.ro (some I) v (a.tmps.getD d undef)) ∧
    (∀ i t d, listed.getD i false = true → tr[i]? = some t → t.dst = some d → VRel w I.ro (some I) t.v (a.tmps.getD d undef)) ∧ RdOk I rd r ∧ Evo I0 w00 I w

theorem DInv.base {rest : TM} {tr : List Tr} {listed : Array Bool} {H : HS} {l : List Nat}
    (c : I.clk = H.clk) (h : HRel w0 N0 I H.heap H.next w) (hd : DRel I H.heap S.marks a.defers) (hs : a.tmps.size = S.size)
    (h1 : ∀ d v, lookT d rest = some v → VRel w I.ro (some I) v (a.tmps.getD d undef))
    (h2 : ∀ i t d, listed.getD i false = true → tr[i]? = some t → t.dst = some d → VRel w I.ro (some I) t.v (a.tmps.getD d undef)) (hll : ∀ p ∈ l, listed.getD p false = true) : Rel w0 N0 I (S.base rest tr l H) a w :=
  ⟨c, ⟨hs, fun d v hv => by
    rcases look_seen hv with ⟨p, t, e1, e2, e3, e4⟩ | hv
    · subst e4; exact h2 p t d (hll p e1) e2 e3
    · exact h1 d v hv⟩, h, hd⟩

/-- What is asked of a drawn region. -/
structure DrawOk (P : Program) (w0 : World) (N0 : Nat) (rd : Option (Nat × Nat)) (S : AS) (rf : Nat → TM) (rest : TM) (ios : List Opr) (pres : List (List Nat)) (tr : List Tr) (louds : List Nat) (heaps : List HS) : Prop where
  len1 : tr.length = ios.length
  free : ∀ (i d : Nat) (v : AV), lookT d (rf i) = some v → lookT d S.tmps = some v ∧ ∀ (k : Nat) (t : Tr), tr[k]? = some t → t.dst = some d → k = i ∨ i ∈ t.anc
  last : ∀ (d : Nat) (v : AV), lookT d rest = some v → lookT d S.tmps = some v ∧ ∀ (i : Nat) (t : Tr), tr[i]? = some t → t.dst ≠ some d
  len2 : pres.length = ios.length
  dst : ∀ (i : Nat) (io : Opr) (t : Tr), ios[i]? = some io → tr[i]? = some t → t.dst = io.dst ∧ okDst S.size io.dst = true
  nd : ∀ (i j : Nat) (t t' : Tr) (d : Nat), tr[i]? = some t → tr[j]? = some t' → t.dst = some d → t'.dst = some d → i = j
  acyc : ∀ (i : Nat) (ps : List Nat), pres[i]? = some ps → ∀ p ∈ ps, p < i
  anc : ∀ (i : Nat) (ps : List Nat) (t : Tr), pres[i]? = some ps → tr[i]? = some t → ∀ q ∈ t.anc, ∃ p ∈ ps, q = p ∨ ∃ t' : Tr, tr[p]? = some t' ∧ q ∈ t'.anc
  h0 : heaps[0]? = some S.hs
  hl : heaps.length = louds.length + 1
  lo : ∀ (m l l' : Nat), louds[m]? = some l → louds[m + 1]? = some l' → ∃ t : Tr, tr[l']? = some t ∧ l ∈ t.anc
  lob : ∀ l ∈ louds, l < ios.length
  step : ∀ (i : Nat) (io : Opr) (t : Tr) (j : Nat) (H : HS), ios[i]? = some io → tr[i]? = some t → heaps[j]? = some H → Fits tr louds i t j → StepOk P w0 N0 rd S rf tr louds heaps i io t j H

theorem mapM_got {α β : Type} {f : α → Option β} : ∀ {l : List α} {r : List β}, l.mapM f = some r → r.length = l.length ∧ ∀ (i : Nat) (x : α), l[i]? = some x → ∃ y, r[i]? = some y ∧ f x = some y
  | [], r, h => by simp at h; subst h; simp
  | x :: l, r, h => by
    rw [List.mapM_cons] at h
    cases h1 : f x with
    | none => simp [h1] at h
    | some y =>
      cases h2 : l.mapM f with
      | none => simp [h1, h2] at h
      | some ys =>
        simp [h1, h2] at h; subst h
        obtain ⟨e1, e2⟩ := mapM_got h2
        refine ⟨by simp [e1], fun i z hz => ?_⟩
        cases i with
        | zero => simp at hz; subst hz; exact ⟨y, rfl, h1⟩
        | succ i => simpa using e2 i z (by simpa using hz)

theorem getD_set {listed : Array Bool} {i : Nat} (hi : i < listed.size) (k : Nat) : (listed.setIfInBounds i true).getD k false = (decide (k = i) || listed.getD k false) := by
  by_cases e : k = i
  · subst e; simp [Array.getD_eq_getD_getElem?, hi]
  · rw [getD_set_ne false (fun h => e h.symm)]; simp [e]

theorem rep_false (m k : Nat) : (Array.replicate m false).getD k false = false := by
  simp only [Array.getD_eq_getD_getElem?, Array.getElem?_replicate]
  split <;> rfl

theorem draw_all {rf : Nat → TM} {rest : TM} {ios : List Opr} {pres : List (List Nat)} {tr : List Tr} {louds : List Nat} {heaps : List HS} (D : DrawOk P w0 N0 rd S rf rest ios pres tr louds heaps) {ops : Array Oper} (hio : ops.toList.mapM (comIO P ops) = some ios) (hpr : pres = presOf ops)
    {r : Option Nat} {n : Nat} {I0 : LI} {w00 : World} {Qc : Exit → Act → World → Prop} (hQ : ∀ Hn I a w, heaps[louds.length]? = some Hn → Rel w0 N0 I (S.base rest tr (List.range ios.length) Hn) a w → Evo I0 w00 I w → Qc .normal a w) :
    ∀ (fuel : Nat) (listed : Array Bool) (a : Act) (w : World), ((List.range ios.length).filter fun i => !listed.getD i false).length ≤ fuel → DInv w0 N0 rd r S tr louds heaps I0 w00 listed a w →
      wpAnyIn (Wd r) n P .any ops Qc fuel listed a w := by
  obtain ⟨hlen, hget⟩ := mapM_got hio
  have hsz : ios.length = ops.size := by simpa using hlen
  -- nothing is ready: everything is listed
  have hdone : ∀ (listed : Array Bool) a w, DInv w0 N0 rd r S tr louds heaps I0 w00 listed a w → Region.ready .any ops listed = [] → Qc .normal a w := by
    intro listed a w ⟨hlz, hdown, I, j, H, hH, hpref, hc, hh, hd, hs, h1, h2, ho, hE⟩ hr
    have hall : ∀ i, i < ios.length → listed.getD i false = true := by
      intro i
      induction i using Nat.strongRecOn with
      | _ i ih =>
        intro hi
        cases hli : listed.getD i false with
        | true => rfl
        | false =>
          exfalso
          have hio' : i < ops.size := by omega
          have : i ∈ Region.ready .any ops listed := by
            rw [mem_ready]
            refine ⟨?_, ops[i], by simp [hio'], fun e he hb => ?_⟩
            · have : i < listed.size := by rw [hlz, D.len1]; exact hi
              simp only [Array.getD_eq_getD_getElem?, Array.getElem?_eq_getElem this, Option.getD_some] at hli ⊢
              exact hli
            · have hp : pres[i]? = some ((ops[i].after.toList.filter (Region.binds .any ·)).map (·.on)) := by
                rw [hpr]; simp [presOf, hio']
              have := D.acyc i _ hp e.on (List.mem_map.2 ⟨e, List.mem_filter.2 ⟨by simpa using he, hb⟩, rfl⟩)
              exact ih _ this (by omega)
          rw [hr] at this; cases this
    have hj : j = louds.length := by
      have hjl : j < heaps.length := (List.getElem?_eq_some_iff.1 hH).1
      rw [D.hl] at hjl
      rcases Nat.lt_or_ge j louds.length with hlt | hge
      · exfalso
        have := (hpref j louds[j] (by simp [hlt])).1 (hall _ (D.lob _ (List.getElem_mem hlt)))
        omega
      · omega
    subst hj
    exact hQ H I a w hH (DInv.base hc hh hd hs (fun d v hv => h1 d v (D.last d v hv).1 fun k t hk hkd => absurd hkd ((D.last d v hv).2 k t hk)) h2 fun p hp => hall p (List.mem_range.1 hp)) hE
  intro fuel
  induction fuel with
  | zero =>
    intro listed a w hf hI
    have hr : Region.ready .any ops listed = [] := by
      cases hr : Region.ready .any ops listed with
      | nil => rfl
      | cons i l =>
        exfalso
        have hi : i ∈ Region.ready .any ops listed := by rw [hr]; exact List.mem_cons_self ..
        rw [mem_ready] at hi
        obtain ⟨h1, o, h2, _⟩ := hi
        have hlt : i < ops.size := (Array.getElem?_eq_some_iff.1 h2).1
        have : i ∈ (List.range ios.length).filter fun i => !listed.getD i false := by
          rw [List.mem_filter]
          refine ⟨List.mem_range.2 (by omega), ?_⟩
          have hl : i < listed.size := by rw [hI.len, D.len1]; omega
          simp only [Array.getD_eq_getD_getElem?, Array.getElem?_eq_getElem hl, Option.getD_some] at h1 ⊢
          simp [h1]
        cases hx : (List.range ios.length).filter fun i => !listed.getD i false with
        | nil => rw [hx] at this; cases this
        | cons => rw [hx] at hf; simp at hf
    exact ⟨hr, hdone listed a w hI hr⟩
  | succ fuel ih =>
    intro listed a w hf hI
    refine ⟨hdone listed a w hI, fun i hi => ?_⟩
    obtain ⟨hlz, hdown, I, j, H, hH, hpref, hc, hh, hd, hs, h1, h2, ho, hE⟩ := hI
    rw [mem_ready] at hi
    obtain ⟨hu, o, hoi, hpre⟩ := hi
    have hlt : i < ops.size := (Array.getElem?_eq_some_iff.1 hoi).1
    have hil : i < listed.size := by rw [hlz, D.len1]; omega
    have hu' : listed.getD i false = false := by
      simp only [Array.getD_eq_getD_getElem?, Array.getElem?_eq_getElem hil, Option.getD_some] at hu ⊢
      exact hu
    obtain ⟨io, hio1, hcom⟩ := hget i o (by rw [Array.getElem?_toList]; exact hoi)
    have htl : i < tr.length := by rw [D.len1]; omega
    obtain ⟨t, ht⟩ : ∃ t, tr[i]? = some t := ⟨tr[i], by simp [htl]⟩
    have hp : pres[i]? = some ((o.after.toList.filter (Region.binds .any ·)).map (·.on)) := by
      rw [hpr]; simp [presOf, hoi]
    have hanc : ∀ q ∈ t.anc, listed.getD q false = true := by
      intro q hq
      obtain ⟨p, hpp, hor⟩ := D.anc i _ t hp ht q hq
      obtain ⟨e, he, rfl⟩ := List.mem_map.1 hpp
      obtain ⟨he1, he2⟩ := List.mem_filter.1 he
      have hlp := hpre e (by simpa using he1) he2
      rcases hor with rfl | ⟨t', ht', hqt⟩
      · exact hlp
      · exact hdown _ t' hlp ht' q hqt
    have hfit : Fits tr louds i t j := by
      intro m l hml
      refine ⟨fun hla => (hpref m l hml).1 (hanc l hla), fun e => ?_, fun tl htl2 hia => ?_⟩
      · subst e
        rcases Nat.lt_or_ge m j with hlt2 | hge
        · have := (hpref m l hml).2 hlt2; rw [hu'] at this; cases this
        · exact hge
      · rcases Nat.lt_or_ge m j with hlt2 | hge
        · have := hdown l tl ((hpref m l hml).2 hlt2) htl2 i hia; rw [hu'] at this; cases this
        · exact hge
    obtain ⟨hdst, hok⟩ := D.dst i io t hio1 ht
    obtain ⟨hcd, _⟩ := com_dst hcom
    have hB : Rel w0 N0 I (S.base (rf i) tr t.anc H) a w := DInv.base hc hh hd hs (fun d v hv => h1 d v (D.free i d v hv).1 fun k tk hk hkd => by
      cases hlk : listed.getD k false with
      | false => rfl
      | true =>
        rcases (D.free i d v hv).2 k tk hk hkd with rfl | hin
        · rw [hu'] at hlk; cases hlk
        · have := hdown k tk hlk hk i hin; rw [hu'] at this; cases this) h2 hanc
    have hfuel : ((List.range ios.length).filter fun k => !(listed.setIfInBounds i true).getD k false).length ≤ fuel := by
      have := cnt_lt (fun k => !listed.getD k false) (fun k => !(listed.setIfInBounds i true).getD k false) i (by simp [hu']) (by rw [getD_set hil]; simp) (List.range ios.length)
        (fun k _ hk => by rw [getD_set hil] at hk; simp at hk; simpa using hk.2) (List.mem_range.2 (by omega))
      omega
    -- what holds when the operation has given its value
    have hnext : ∀ (I' : LI) (j' : Nat) (H' : HS) (u : Value) (w' : World), heaps[j']? = some H' → ((i ∉ louds ∧ j' = j) ∨ (louds[j]? = some i ∧ j' = j + 1)) → Rel w0 N0 I' (S.base (rf i) tr t.anc H') a w' → VRel w' I'.ro (some I') t.v u → Evo I w I' w' →
        wpAnyIn (Wd r) n P .any ops Qc fuel (listed.setIfInBounds i true) (a.put o.dst u) w' := by
      intro I' j' H' u w' hH' hjj hR' hV hE'
      refine ih _ _ _ hfuel ⟨by simp [hlz], fun k tk hk htk p hpk => ?_, I', j', H', hH', fun m l hml => ?_, hR'.clk, hR'.hrel, ?_, ?_, fun d v hv hfr => ?_, fun k tk d hk htk hdk => ?_, ho.evo hE', hE.trans hE'⟩
      · rw [getD_set hil] at hk ⊢
        simp only [Bool.or_eq_true, decide_eq_true_eq] at hk ⊢
        rcases hk with rfl | hk
        · rw [ht] at htk; injection htk with htk; subst htk
          exact .inr (hanc p hpk)
        · exact .inr (hdown k tk hk htk p hpk)
      · rw [getD_set hil]
        simp only [Bool.or_eq_true, decide_eq_true_eq]
        rcases hjj with ⟨hq, rfl⟩ | ⟨hq, rfl⟩
        · rw [← hpref m l hml]
          exact ⟨fun h => h.resolve_left fun e => hq (e ▸ List.mem_of_getElem? hml), .inr⟩
        · rw [hpref m l hml]
          refine ⟨fun h => ?_, fun h => ?_⟩
          · rcases h with rfl | h
            · rcases Nat.lt_or_ge j m with hgt | hle
              · exfalso
                obtain ⟨m', rfl⟩ : ∃ m', m = m' + 1 := ⟨m - 1, by omega⟩
                have hm' : m' < louds.length := by have := (List.getElem?_eq_some_iff.1 hml).1; omega
                obtain ⟨t2, ht2, hin⟩ := D.lo m' louds[m'] l (by simp [hm']) hml
                rw [ht] at ht2; injection ht2 with ht2; subst ht2
                have := (hpref m' louds[m'] (by simp [hm'])).1 (hanc _ hin)
                omega
              · omega
            · omega
          · rcases Nat.lt_or_ge m j with hlt2 | hge
            · exact .inr hlt2
            · have : m = j := by omega
              subst this
              rw [hq] at hml; injection hml with hml
              exact .inl hml.symm
      · have := hR'.marks
        cases hdo : o.dst <;> exact this
      · cases hdo : o.dst <;> simp [Act.put, hs]
      · have hv0 := (h1 d v hv fun k tk hk hkd => by
          have := hfr k tk hk hkd
          rw [getD_set hil] at this
          simp only [Bool.or_eq_false_iff] at this
          exact this.2).evo hE'
        cases hdo : o.dst with
        | none => exact hv0
        | some d' =>
          have hne : d' ≠ d := by
            intro e; subst e
            have := hfr i t ht (by rw [hdst, ← hcd, hdo])
            rw [getD_set hil] at this
            simp at this
          show VRel w' I'.ro (some I') v ((a.tmps.setIfInBounds d' u).getD d undef)
          simpa [Array.getD_eq_getD_getElem?, Array.getElem?_setIfInBounds_ne hne] using hv0
      · rw [getD_set hil] at hk
        simp only [Bool.or_eq_true, decide_eq_true_eq] at hk
        by_cases e : k = i
        · subst e
          rw [ht] at htk; injection htk with htk; subst htk
          have hdo : o.dst = some d := by rw [hcd, ← hdst, hdk]
          rw [hdo]
          have hdlt : d < a.tmps.size := by
            rw [hs]; rw [← hcd, hdo] at hok; simpa [okDst] using hok
          show VRel w' I'.ro (some I') _ ((a.tmps.setIfInBounds d u).getD d undef)
          simpa [Array.getD_eq_getD_getElem?, hdlt] using hV
        · have hv0 := (h2 k tk d (hk.resolve_left e) htk hdk).evo hE'
          cases hdo : o.dst with
          | none => exact hv0
          | some d' =>
            have hne : d' ≠ d := by
              intro e2; subst e2
              exact e (D.nd k i tk t d' htk ht hdk (by rw [hdst, ← hcd, hdo]))
            show VRel w' I'.ro (some I') tk.v ((a.tmps.setIfInBounds d' u).getD d undef)
            simpa [Array.getD_eq_getD_getElem?, Array.getElem?_setIfInBounds_ne hne] using hv0
    unfold wpOpIn
    simp only [hoi]
    rcases D.step i io t j H hio1 ht hH hfit with ⟨hq, hw, hv⟩ | ⟨hw, hor⟩
    · rw [if_neg (by rw [wanted_of hB hcom hw]; simp)]
      exact ⟨fun _ _ => trivial, hnext I j H undef w hH (.inl ⟨hq, rfl⟩) hB (by rw [hv]; exact .tup rfl (by simp)) (Evo.refl I w)⟩
    · rw [if_pos (wanted_of hB hcom hw)]
      rcases hor with ⟨hq, hst⟩ | ⟨hq, H', hH', hst⟩
      · exact hst ops o hcom n I a w r _ Qc hB ho fun I' S1 v u w' ⟨e1, e2⟩ hR hV hE' => by
          subst e1 e2; exact hnext I' j H u w' hH (.inl ⟨hq, rfl⟩) hR hV hE'
      · exact hst ops o hcom n I a w r _ Qc hB ho fun I' S1 v u w' ⟨e1, e2⟩ hR hV hE' => by
          subst e1 e2; exact hnext I' (j + 1) H' u w' hH' (.inr ⟨hq, rfl⟩) hR hV hE'

/-- **A REGION WHOSE ORDER IS DRAWN.** -/
theorem T_draw (hm : P.follows .mixedOrders = true) {ios : List Opr} {pres : List (List Nat)} (rf : Nat → TM) (rest : TM) (tr : List Tr) (louds : List Nat) (heaps : List HS) (D : DrawOk P w0 N0 rd S rf rest ios pres tr louds heaps)
    (h : ∀ H, heaps[louds.length]? = some H → Q .normal (S.base rest tr (List.range ios.length) H)) : T P w0 N0 rd (.region ios (some pres)) S Q := fun code hcom n I a w r hr ho => by
  cases hcom with
  | @region id ops draw _ _ h1 hp =>
    cases draw with
    | false => simp at hp
    | true =>
      refine wpIn_region_any hm ?_
      obtain ⟨hlen, _⟩ := mapM_got h1
      simp at hlen
      obtain ⟨k1, k2⟩ := hr.hrel.drew
      refine draw_all D h1 (by simpa using hp) (fun Hn I' a' w' e1 e2 e3 => ⟨I', _, h Hn e1, e2, e3⟩) ops.size _ a _ ?_ ?_
      · rw [← hlen]
        exact Nat.le_trans (List.length_filter_le ..) (by simp)
      · refine ⟨by simp [D.len1, hlen], fun i t hi => ?_, I, 0, S.hs, D.h0, fun m l hml => ?_, hr.clk, k1, hr.marks, hr.tmps.1, fun d v hv _ => ((hr.tmps.2 d v hv).evo k2), fun i t d hi => ?_, ho, k2⟩
        · rw [rep_false] at hi; cases hi
        · rw [rep_false]; simp
        · rw [rep_false] at hi; cases hi

end
end Go.Am
