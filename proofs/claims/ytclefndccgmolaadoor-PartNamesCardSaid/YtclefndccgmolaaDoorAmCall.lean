/-
  OPERATIONS IN A ROW, AND CALLS. A general base for proofs: no program is named here.
-/
import Derived.Test.YtclefndccgmolaaDoorAmCtl
namespace Go.Am
open Go Go.RowKit

/-- What is known of the heap alone. -/
structure HS where
  heap : List (Nat × Nat × AObj)
  next : Nat
  clk : Nat

def AS.hs (S : AS) : HS := ⟨S.heap, S.next, S.clk⟩
def AS.withH (S : AS) (H : HS) : AS := { S with heap := H.heap, next := H.next, clk := H.clk }

/-- A function can be entered. -/
def Ent (P : Program) (f : FuncId) : Prop := ∀ args w, (callFunc f args).run P w = .ok (.enter f args) w

/-- WHAT A CALL DOES, arguments and heap known abstractly. -/
def FT (P : Program) (w0 : World) (N0 : Nat) (f : FuncId) (args : List AV) (H : HS) (Q : AV → HS → Prop) : Prop :=
  Ent P f ∧ ∀ I w us, HRel w0 N0 I H.heap H.next w → I.clk = H.clk → CRel w I.ro (some I) args us →
    Calls P f us w fun e w' => ∃ u v H' I', e = .returned u ∧ Q v H' ∧ HRel w0 N0 I' H'.heap H'.next w' ∧ I'.clk = H'.clk ∧ VRel w' I'.ro (some I') v u ∧ Evo I w I' w'

/-- A CALL THAT ONLY COMPUTES: pure values in, a pure value out, nothing that was there turned. -/
def PF (P : Program) (f : FuncId) (args : List AV) (v : AV) : Prop :=
  Ent P f ∧ ∀ (ro : Nat → Prop) w us, GOk ro w → CRel w ro none args us → Calls P f us w fun e w' => ∃ u, e = .returned u ∧ Below w.heap.size w w' ∧ VRel w' (fun b => ro b ∨ w.heap.size ≤ b) none v u

theorem cell_below {B : Nat} {w w' : World} (h : Below B w w') {b i : Nat} {x : Value} (hb : b < B) (hc : w.cell? ⟨b, i, none⟩ = some x) : w'.cell? ⟨b, i, none⟩ = some x := by
  rw [cell?_of_heap (h.block b hb)]; exact hc

/-- The heap behind a call that only computes. -/
theorem HRel.below' {w0 w w' : World} {N0 next : Nat} {I : LI} {hp : List (Nat × Nat × AObj)} (h : HRel w0 N0 I hp next w) (hb : Below w.heap.size w w') : HRel w0 N0 I hp next w' ∧ Evo I w I w' := by
  have hN : N0 ≤ w.heap.size := Nat.le_trans h.base h.below.size
  have hE : Evo I w I w' := ⟨Nat.le_refl _, fun _ _ _ _ h => h, fun b i x hr hc => ⟨hr, cell_below hb (lt_of_cell hc) hc⟩, rfl⟩
  refine ⟨⟨h.below.trans (hb.mono hN), h.base, fun i st o hi => ?_, h.locs, h.inj, h.fresh, h.free, h.okN, h.glob.mono hE.ro⟩, hE⟩
  obtain ⟨a, l, b, c⟩ := h.heap i st o hi
  refine ⟨a, l, b, c.evo hE fun b' base n e => ?_⟩
  subst e
  refine hb.block b' ?_
  cases o with
  | cells cs => obtain ⟨c', elem, h1, _⟩ := c; exact (Array.getElem?_eq_some_iff.1 h1).1
  | loop => obtain ⟨c', h1, _⟩ := c; exact (Array.getElem?_eq_some_iff.1 h1).1
  | deferred => exact (Array.getElem?_eq_some_iff.1 c).1
  | map es => obtain ⟨c', elem, h1, _⟩ := c; exact (Array.getElem?_eq_some_iff.1 h1).1

/-- Does a value name memory of the call's own? -/
def hasM : AV → Bool
  | .mptr .. | .ms .. | .mapv .. | .yield .. => true
  | .agg cs => hasML cs
  | .tup cs => hasML cs
  | .fn _ a b => hasML a || hasML b
  | _ => false
where
  hasML : List AV → Bool
    | [] => false
    | v :: l => hasM v || hasML l

def flat : AV → Bool
  | .bool _ | .int .. | .str _ | .nilp | .nils | .nilf => true
  | .agg cs => flatL cs
  | .tup cs => flatL cs
  | _ => false
where
  flatL : List AV → Bool
    | [] => true
    | v :: l => flat v && flatL l

/-- A value as it reads once nothing more is written: the call's own memory by its contents. -/
def AS.view (S : AS) : Nat → AV → AV
  | 0, v => strip v
  | d + 1, .ms id st sz off len cap => match S.elems sz (.ms id st sz off len cap) with
    | some es => .vs (es.map (·.map (S.view d)))
    | none => .top
  | d + 1, .mptr id st off => match S.deref (.mptr id st off) with
    | some cs => .vptr (cs.map (S.view d))
    | none => .top
  | d + 1, .agg cs => .agg (cs.map (S.view d))
  | d + 1, .tup cs => .tup (cs.map (S.view d))
  | d + 1, .fn f a b => .fn f (a.map (S.view d)) (b.map (S.view d))
  | _ + 1, .nils => .vs []
  | _ + 1, v => strip v

theorem flatL_get : ∀ {cs : List AV}, flat.flatL cs = true → ∀ (i : Nat) (x : AV), cs[i]? = some x → flat x = true
  | [], _, i, x, h => by simp at h
  | c :: cs, h, i, x, hx => by
    simp only [flat.flatL, Bool.and_eq_true] at h
    cases i with
    | zero => simp at hx; subst hx; exact h.1
    | succ i => exact flatL_get h.2 i x (by simpa using hx)

theorem VRel.flat {w w' : World} {ro ro' : Nat → Prop} {L L' : Option LI} {v : AV} {u : Value} (h : VRel w ro L v u) : flat v = true → VRel w' ro' L' v u := by
  induction h with
  | bool => intro _; exact .bool
  | int => intro _; exact .int
  | str => intro _; exact .str
  | nilp => intro _; exact .nilp
  | nils => intro _; exact .nils
  | nilf => intro _; exact .nilf
  | agg h1 h ih => intro hf; exact .agg h1 fun i x hx => ih i x hx (flatL_get hf i x hx)
  | tup h1 h ih => intro hf; exact .tup h1 fun i x hx => ih i x hx (flatL_get hf i x hx)
  | _ => intro hf; simp [Go.Am.flat] at hf

section
variable {P : Program} {w0 w : World} {N0 : Nat} {I : LI} {S S' : AS} {a : Act} {rd : Option (Nat × Nat)}

theorem VRel.okk {w : World} {I : LI} {x : AV} {y : Value} (hx : VRel w I.ro none x y) : VRel w I.ok none x y := hx.mono (fun _ _ _ hb hc => ⟨hb.1, hc⟩) trivial

theorem VRel.nilvs {w : World} {ro : Nat → Prop} {L : Option LI} {p : Option Addr} : VRel w ro L (.vs []) (.slice p 0 0) :=
  .vs (sz := 0) (b := 0) (off := 0) (fun _ _ => undef) rfl (Nat.le_refl _) (fun h => absurd rfl h) (by simp) (by simp) (by simp)

theorem chunk_get (sz : Nat) : ∀ (n i : Nat) (l e : List AV), (chunk sz n l)[i]? = some e → e = (l.drop (i * sz)).take sz
  | 0, i, l, e, h => by simp [chunk] at h
  | n + 1, 0, l, e, h => by simp [chunk] at h; rw [← h]; simp
  | n + 1, i + 1, l, e, h => by
    simp [chunk] at h
    rw [chunk_get sz n i _ e h, List.drop_drop, Nat.succ_mul, Nat.add_comm]

/-- What the view of a value says. -/
theorem view_rel (h : HRel w0 N0 I S.heap S.next w) : ∀ (d : Nat) {v : AV} {u : Value}, VRel w I.ro (some I) v u → VRel w I.ok none (S.view d v) u := by
  have liveok : ∀ {b base n id st}, I.loc id st = some (.at b base n) → I.ok b := fun hl => h.okN _ (h.fresh _ _ _ _ _ hl)
  intro d
  induction d with
  | zero => intro v u hv; exact hv.strip.okk
  | succ d ih =>
    intro v u hv
    cases v with
    | mptr id st off =>
      simp only [AS.view]
      split
      · rename_i cs hcs
        obtain ⟨b, o, hu, hc⟩ := deref_rel h hv hcs
        subst hu
        have hok : I.ok b := by
          have hcs' := hcs
          simp only [AS.deref] at hcs'
          split at hcs'
          · rename_i st' cs0 hl
            split at hcs'
            · rename_i hst; subst hst
              cases hv with
              | mptr hk hcl =>
                obtain ⟨J, hJ, c1, c0, c2⟩ := hcl
                injection hJ with hJ; subst hJ
                obtain ⟨_, l, hl', hol⟩ := h.heap _ _ _ hl
                cases l with
                | void => exact absurd hl' c0
                | «at» b' base n =>
                  have := c2 _ _ _ hl'
                  injection this with this; injection this with this; injection this with e1 e2
                  subst e1
                  exact liveok hl'
            · cases hcs'
          · cases hcs'
        refine .vptr (fun i => (w.cell? ⟨b, o + i, none⟩).getD undef) (fun i x hx => ?_) (fun i x hx => ?_)
        · rw [List.getElem?_map, Option.map_eq_some_iff] at hx
          obtain ⟨y, hy, rfl⟩ := hx
          obtain ⟨z, hz, _⟩ := hc i y hy
          exact ⟨hok, by rw [hz]; rfl⟩
        · rw [List.getElem?_map, Option.map_eq_some_iff] at hx
          obtain ⟨y, hy, rfl⟩ := hx
          obtain ⟨z, hz, hyz⟩ := hc i y hy
          rw [hz]
          exact ih hyz
      · exact .top
    | ms id st sz off len cap =>
      simp only [AS.view]
      split
      · rename_i es hes
        have hes' := hes
        simp only [AS.elems] at hes'
        split at hes'
        · rename_i st' cs hl
          split at hes'
          · rename_i hcond
            obtain ⟨rfl, _, hle⟩ := hcond
            simp only [Option.some.injEq] at hes'; subst hes'
            have hdl : len * sz ≤ (cs.drop off).length := by simp; omega
            cases hv with
            | @ms _ _ _ _ _ _ _ p c hlc hp hcap hcl =>
              obtain ⟨J, hJ, c1, c2, c3⟩ := hcl
              injection hJ with hJ; subst hJ
              by_cases hc0 : c = 0
              · subst hc0
                obtain rfl : len = 0 := by omega
                exact .nilvs
              · obtain ⟨_, l, hl', hol⟩ := h.heap _ _ _ hl
                cases l with
                | void => exact absurd (c3 hl') hc0
                | «at» b base n =>
                  rcases c2 b base n hl' with h00 | ⟨e1, _⟩
                  · exact absurd h00 hc0
                  · subst e1
                    obtain ⟨cc, elem, o1, o2, o3, o4⟩ := hol
                    have hget : ∀ i j e x, ((chunk sz len (cs.drop off)).map (·.map (S.view d)))[i]? = some e → e[j]? = some x → ∃ y, x = S.view d y ∧ cs[off + i * sz + j]? = some y := by
                      intro i j e x hi hj
                      rw [List.getElem?_map, Option.map_eq_some_iff] at hi
                      obtain ⟨e', he', rfl⟩ := hi
                      rw [List.getElem?_map, Option.map_eq_some_iff] at hj
                      obtain ⟨y, hy, rfl⟩ := hj
                      refine ⟨y, rfl, ?_⟩
                      rw [chunk_get _ _ _ _ _ he'] at hy
                      have hjl : j < sz := by have := (List.getElem?_eq_some_iff.1 hy).1; simp at this; omega
                      rw [List.getElem?_take_of_lt hjl, List.getElem?_drop, List.getElem?_drop] at hy
                      rw [show off + i * sz + j = off + (i * sz + j) from by omega]; exact hy
                    refine .vs (sz := sz) (b := b) (off := base + off) (fun i j => cc.getD (base + (off + i * sz + j)) undef) (by simp [chunk_length]) hlc (fun _ => rfl) ?_ ?_ ?_
                    · intro e he
                      rw [List.mem_map] at he
                      obtain ⟨e', he', rfl⟩ := he
                      rw [List.length_map]; exact chunk_size sz len _ hdl e' he'
                    · intro i j e x hi hj
                      obtain ⟨y, rfl, hy⟩ := hget i j e x hi hj
                      have hlt : off + i * sz + j < cs.length := (List.getElem?_eq_some_iff.1 hy).1
                      have hlt2 : base + (off + i * sz + j) < cc.size := by omega
                      refine ⟨liveok hl', ?_⟩
                      rw [show base + off + i * sz + j = base + (off + i * sz + j) from by omega]
                      simp [World.cell?, o1, hlt2, Array.getD_eq_getD_getElem?]
                    · intro i j e x hi hj
                      obtain ⟨y, rfl, hy⟩ := hget i j e x hi hj
                      exact ih (o4 _ y hy)
          · cases hes'
        · cases hes'
      · exact .top
    | agg cs =>
      cases hv with
      | agg h1 h2 =>
        refine .agg (by simp [h1]) fun i x hx => ?_
        rw [List.getElem?_map, Option.map_eq_some_iff] at hx
        obtain ⟨y, hy, rfl⟩ := hx
        exact ih (h2 i y hy)
    | tup cs =>
      cases hv with
      | tup h1 h2 =>
        refine .tup (by simp [h1]) fun i x hx => ?_
        rw [List.getElem?_map, Option.map_eq_some_iff] at hx
        obtain ⟨y, hy, rfl⟩ := hx
        exact ih (h2 i y hy)
    | fn f fa ca =>
      cases hv with
      | fn h1 h2 h3 h4 =>
        refine .fn (by simp [h1]) (by simp [h2]) (fun i x hx => ?_) fun i x hx => ?_
        · rw [List.getElem?_map, Option.map_eq_some_iff] at hx
          obtain ⟨y, hy, rfl⟩ := hx
          exact ih (h3 i y hy)
        · rw [List.getElem?_map, Option.map_eq_some_iff] at hx
          obtain ⟨y, hy, rfl⟩ := hx
          exact ih (h4 i y hy)
    | nils => cases hv; exact .nilvs
    | _ => exact hv.strip.okk

theorem hasML_get : ∀ {cs : List AV}, hasM.hasML cs = false → ∀ (i : Nat) (x : AV), cs[i]? = some x → hasM x = false
  | [], _, i, x, h => by simp at h
  | c :: cs, h, i, x, hx => by
    simp only [hasM.hasML, Bool.or_eq_false_iff] at h
    cases i with
    | zero => simp at hx; subst hx; exact h.1
    | succ i => exact hasML_get h.2 i x (by simpa using hx)

/-- What the view of a value says that names no memory of the call's own. -/
theorem view_pure : ∀ (d : Nat) {v : AV} {u : Value}, VRel w I.ro (some I) v u → hasM v = false → VRel w I.ro none (S.view d v) u := by
  intro d
  induction d with
  | zero => intro v u hv _; exact hv.strip
  | succ d ih =>
    intro v u hv hm
    cases v with
    | mptr => simp [hasM] at hm
    | ms => simp [hasM] at hm
    | yield => simp [hasM] at hm
    | mapv => simp [hasM] at hm
    | agg cs =>
      cases hv with
      | agg h1 h2 =>
        refine .agg (by simp [h1]) fun i x hx => ?_
        rw [List.getElem?_map, Option.map_eq_some_iff] at hx
        obtain ⟨y, hy, rfl⟩ := hx
        exact ih (h2 i y hy) (hasML_get hm i y hy)
    | tup cs =>
      cases hv with
      | tup h1 h2 =>
        refine .tup (by simp [h1]) fun i x hx => ?_
        rw [List.getElem?_map, Option.map_eq_some_iff] at hx
        obtain ⟨y, hy, rfl⟩ := hx
        exact ih (h2 i y hy) (hasML_get hm i y hy)
    | fn f fa ca =>
      simp only [hasM, Bool.or_eq_false_iff] at hm
      cases hv with
      | fn h1 h2 h3 h4 =>
        refine .fn (by simp [h1]) (by simp [h2]) (fun i x hx => ?_) fun i x hx => ?_
        · rw [List.getElem?_map, Option.map_eq_some_iff] at hx
          obtain ⟨y, hy, rfl⟩ := hx
          exact ih (h3 i y hy) (hasML_get hm.1 i y hy)
        · rw [List.getElem?_map, Option.map_eq_some_iff] at hx
          obtain ⟨y, hy, rfl⟩ := hx
          exact ih (h4 i y hy) (hasML_get hm.2 i y hy)
    | nils => cases hv; exact .nilvs
    | _ => exact hv.strip

end
end Go.Am
