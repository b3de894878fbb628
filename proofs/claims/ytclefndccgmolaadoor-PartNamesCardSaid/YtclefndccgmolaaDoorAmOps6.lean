/-
  SLICES. A general base for proofs: no program is named here.
-/
import Derived.Test.YtclefndccgmolaaDoorAmOps5
namespace Go.Am
open Go Go.RowKit

theorem add_none (b off n : Nat) : (⟨b, off, none⟩ : Addr).add n = ⟨b, off + n, none⟩ := by
  unfold Addr.add; split <;> simp_all

section
variable {P : Program} {w0 w : World} {N0 : Nat} {I : LI} {S S' : AS} {a : Act} {io : IOp} {v : AV}

/-- An optional bound, as a value. -/
def OInt (o : Option Value) (d l : Int) : Prop := (o = none ∧ l = d) ∨ ∃ k, o = some (.int k l)

theorem oint (h : Rel w0 N0 I S a w) {lo : Option Operand} {al : Option Arg} {lv : Option AV} {d l : Int} (h1 : comO lo = some al) (h2 : S.oarg al = some lv) (h3 : optInt lv d = some l) :
    OInt (lo.map a.eval) d l ∧ (lv = none ↔ lo = none) := by
  cases lo with
  | none =>
    simp [comO] at h1; subst h1
    simp [AS.oarg] at h2; subst h2
    simp [optInt] at h3; subst h3
    exact ⟨.inl ⟨rfl, rfl⟩, by simp⟩
  | some x =>
    simp only [comO, Option.map_eq_some_iff] at h1
    obtain ⟨ar, har, rfl⟩ := h1
    simp only [AS.oarg, Option.map_eq_some_iff] at h2
    obtain ⟨xv, hx, rfl⟩ := h2
    have hr := h.arg har hx
    cases xv <;> simp only [optInt, Option.some.injEq, reduceCtorEq] at h3
    subst h3
    generalize he : a.eval x = u at hr
    cases hr
    exact ⟨.inr ⟨_, by simp [he]; rfl⟩, by simp⟩

theorem run_bound {x : Value} {k : IntKind} {i : Int} {y : Nat} {code : BoundsCode} (hx : x = .int k i) (h0 : 0 ≤ i) (h1 : i ≤ y) : (Instr.sliceBound x y code).run P w = .ok i.toNat w := by
  subst hx; simp [Instr.sliceBound, asIntOf, h0, h1]

theorem run_bounds2 {isSlice : Bool} {len cap : Nat} {lo hi : Option Value} {l h : Int} (hlo : OInt lo 0 l) (hhi : OInt hi len h) (h0 : 0 ≤ l) (h1 : l ≤ h) (h2 : h ≤ cap) :
    (Instr.sliceBounds isSlice len cap lo hi none).run P w = .ok (l.toNat, h.toNat, cap) w := by
  have e : ((h.toNat : Nat) : Int) = h := Int.toNat_of_nonneg (by omega)
  rcases hlo with ⟨rfl, rfl⟩ | ⟨kl, rfl⟩ <;> rcases hhi with ⟨rfl, rfl⟩ | ⟨kh, rfl⟩
  · simp [Instr.sliceBounds]
  · simp [Instr.sliceBounds, run_bound (P := P) (w := w) rfl (by omega : 0 ≤ h) h2]
  · simp [Instr.sliceBounds, run_bound (P := P) (w := w) rfl h0 h1]
  · simp [Instr.sliceBounds, run_bound (P := P) (w := w) rfl (by omega : 0 ≤ h) h2, run_bound (P := P) (w := w) rfl h0 (by omega : l ≤ ((h.toNat : Nat) : Int))]

theorem run_bounds3 {len cap : Nat} {lo hi : Option Value} {k : IntKind} (hlo : OInt lo 0 0) (hhi : ∃ kh, hi = some (.int kh 0)) :
    (Instr.sliceBounds true len cap lo hi (some (.int k 0))).run P w = .ok (0, 0, 0) w := by
  obtain ⟨kh, rfl⟩ := hhi
  rcases hlo with ⟨rfl, _⟩ | ⟨kl, rfl⟩
  · simp [Instr.sliceBounds, Instr.sliceBound, asIntOf]
  · simp [Instr.sliceBounds, Instr.sliceBound, asIntOf]

theorem s_slsl (h : Rel w0 N0 I S a w) {t e : TypeId} {x : Operand} {lo hi mx : Option Operand} {sz : Nat} {ax : Arg} {al ah am : Option Arg} (hu : P.underlying t = some (.slice e)) (hs : sizeOf? P e = some sz)
    (hx : comOperand x = some ax) (hl : comO lo = some al) (hh : comO hi = some ah) (hm : comO mx = some am) (hmh : mx.isSome = true → hi.isSome = true) (hr : iop S (.slsl sz ax al ah am) = some (v, S')) :
    ∃ u, (Instr.sliceAt t (a.eval x) (lo.map a.eval) (hi.map a.eval) (mx.map a.eval)).run P w = .ok u w ∧ VRel w I.ro (some I) v u ∧ S' = S := by
  simp only [iop] at hr
  split at hr
  · rename_i xv lv hv mv hxv hlv hhv hmv
    simp only [Option.map_eq_some_iff, Prod.mk.injEq] at hr
    obtain ⟨r, hr, rfl, rfl⟩ := hr
    have hX := h.arg hx hxv
    generalize a.eval x = xu at hX
    -- the machine's way, once the bounds are known
    have run2 : ∀ (p : Option Addr) (len c : Nat) (l hh' : Int), xu = .slice p len c → mx = none → OInt (lo.map a.eval) 0 l → OInt (hi.map a.eval) len hh' → 0 ≤ l → l ≤ hh' → hh' ≤ c →
        (Instr.sliceAt t xu (lo.map a.eval) (hi.map a.eval) (mx.map a.eval)).run P w = .ok (.slice (if c = l.toNat then p else p.map (·.add (l.toNat * sz))) (hh'.toNat - l.toNat) (c - l.toNat)) w := by
      intro p len c l hh' e1 e2 o1 o2 b0 b1 b2
      subst e1 e2
      simp [Instr.sliceAt, Instr.slice, rn_underlying hu, run_bounds2 o1 o2 b0 b1 b2, rn_size hs]
    have run3 : ∀ (p : Option Addr) (len c : Nat) (k : IntKind), xu = .slice p len c → (mx.map a.eval) = some (.int k 0) → OInt (lo.map a.eval) 0 0 → (∃ kh, hi.map a.eval = some (.int kh 0)) →
        (Instr.sliceAt t xu (lo.map a.eval) (hi.map a.eval) (mx.map a.eval)).run P w = .ok (.slice p 0 0) w := by
      intro p len c k e1 e2 o1 o2
      subst e1
      rw [e2]
      simp [Instr.sliceAt, Instr.slice, rn_underlying hu, run_bounds3 o1 o2, rn_size hs]
    have mxn : mv = none → mx = none := by
      intro e; subst e
      cases mx with
      | none => rfl
      | some y =>
        simp only [comO, Option.map_eq_some_iff] at hm
        obtain ⟨ar, har, rfl⟩ := hm
        simp [AS.oarg] at hmv
    have mxs : ∀ k m, mv = some (.int k m) → ∃ k', mx.map a.eval = some (.int k' m) := by
      intro k m e; subst e
      have := (oint h (d := 0) (l := m) hm hmv (by simp [optInt])).1
      rcases this with ⟨e1, _⟩ | h'
      · cases mx with
        | none => simp [comO] at hm; subst hm; simp [AS.oarg] at hmv
        | some y => simp at e1
      · exact h'
    have three : ∀ (p : Option Addr) (len c : Nat) (l hh' : Int) (k : IntKind) (m : Int), xu = .slice p len c → mv = some (.int k m) → optInt lv 0 = some l → optInt hv len = some hh' → l = 0 ∧ hh' = 0 ∧ m = 0 →
        ∃ u, (Instr.sliceAt t xu (lo.map a.eval) (hi.map a.eval) (mx.map a.eval)).run P w = .ok u w ∧ VRel w I.ro (some I) .nils u := by
      intro p len c l hh' k m e1 e2 o1 o2 ⟨z1, z2, z3⟩
      subst z1 z2 z3
      obtain ⟨k', hk'⟩ := mxs k 0 e2
      refine ⟨_, run3 p len c k' e1 hk' (oint h hl hlv o1).1 ?_, .nils⟩
      rcases (oint h hh hhv o2).1 with ⟨e3, _⟩ | h'
      · have : mx.isSome = true := by cases mx <;> simp at hk' ⊢
        have := hmh this
        cases hi <;> simp at e3 this
      · exact h'
    unfold slslc at hr
    split at hr
    · -- nils
      cases hX
      rename_i p
      split at hr
      · rename_i l hh' m o1 o2 o3
        split at hr
        · rename_i hz
          obtain ⟨z1, z2, z3⟩ := hz
          subst z1 z2 z3
          simp only [Option.some.injEq] at hr; subst hr
          cases mv with
          | none =>
            refine ⟨_, run2 p 0 0 0 0 rfl (mxn rfl) (oint h hl hlv o1).1 (by simpa using (oint h hh hhv o2).1) (by omega) (by omega) (by simp), ?_, rfl⟩
            simp; exact .nils
          | some y =>
            cases y <;> simp only [optInt, Option.some.injEq, reduceCtorEq] at o3
            subst o3
            obtain ⟨u, e1, e2⟩ := three p 0 0 0 0 _ 0 rfl rfl o1 (by simpa using o2) ⟨rfl, rfl, rfl⟩
            exact ⟨u, e1, e2, rfl⟩
        · cases hr
      · cases hr
    · -- vs
      rename_i es
      split at hr
      · rename_i l hh' o1 o2
        cases hX
        rename_i p len c sz' b off us hc' hl' ha' hsz' hcc' hv'
        subst hl'
        split at hr
        · split at hr
          · rename_i hz
            obtain ⟨b0, b1, b2, b3⟩ := hz
            simp only [Option.some.injEq] at hr; subst hr
            refine ⟨_, run2 p es.length c l hh' rfl (mxn rfl) (oint h hl hlv o1).1 (oint h hh hhv o2).1 b0 b1 (by omega), ?_, rfl⟩
            have hszz : ∀ e ∈ es, e.length = sz := by
              intro e he
              have := List.all_eq_true.1 b3 e he
              simpa using this
            have hlen : ((es.drop l.toNat).take (hh'.toNat - l.toNat)).length = hh'.toNat - l.toNat := by simp; omega
            have hget : ∀ i e, ((es.drop l.toNat).take (hh'.toNat - l.toNat))[i]? = some e → es[l.toNat + i]? = some e := by
              intro i e hi
              have hlt : i < hh'.toNat - l.toNat := by have := (List.getElem?_eq_some_iff.1 hi).1; omega
              rw [List.getElem?_take_of_lt hlt, List.getElem?_drop] at hi
              exact hi
            refine .vs (sz := sz) (b := b) (off := off + l.toNat * sz) (fun i j => us (l.toNat + i) j) hlen.symm (by omega) ?_ ?_ ?_ ?_
            · intro hne
              have hpos : 0 < hh'.toNat - l.toNat := by
                rcases Nat.eq_zero_or_pos (hh'.toNat - l.toNat) with h0 | h0
                · rw [h0] at hne; simp at hne
                · exact h0
              have hne' : es ≠ [] := by intro e0; subst e0; simp at b2; omega
              rw [if_neg (by omega), ha' hne']
              simp [add_none]
            · intro e he
              exact hszz e (List.mem_of_mem_drop (List.mem_of_mem_take he))
            · intro i j e x hi hj
              have hge := hget i e hi
              have he2 : sz' = sz := by rw [← hsz' e (List.mem_of_getElem? hge), hszz e (List.mem_of_getElem? hge)]
              subst he2
              have := hcc' _ j e x hge hj
              rw [show off + l.toNat * sz' + i * sz' + j = off + (l.toNat + i) * sz' + j from by rw [Nat.add_mul]; omega]
              exact this
            · intro i j e x hi hj
              exact hv' _ j e x (hget i e hi) hj
          · cases hr
        · rename_i k m
          split at hr
          · rename_i hz
            simp only [Option.some.injEq] at hr; subst hr
            obtain ⟨u, e1, e2⟩ := three p es.length c l hh' k m rfl rfl o1 o2 hz
            exact ⟨u, e1, e2, rfl⟩
          · cases hr
        · cases hr
      · cases hr
    · -- ms
      rename_i id st sz' off len cap
      split at hr
      · rename_i l hh' o1 o2
        cases hX
        rename_i p c hp' hl' hcap' hcl'
        split at hr
        · split at hr
          · rename_i hz
            obtain ⟨b0, b1, b2, b3⟩ := hz
            subst b0
            simp only [Option.some.injEq] at hr; subst hr
            refine ⟨_, run2 p len c l hh' rfl (mxn rfl) (oint h hl hlv o1).1 (oint h hh hhv o2).1 b1 b2 (by omega), ?_, rfl⟩
            have hlc : l.toNat ≤ c := by omega
            obtain ⟨J, hJ, c1, c2, c3⟩ := hcl'
            injection hJ with hJ; subst hJ
            refine .ms (by omega) ?_ ?_ ⟨I, rfl, c1, fun b base n hb => ?_, fun hb => by have := c3 hb; omega⟩
            · intro hpos
              obtain ⟨q, rfl⟩ := hp' (by omega)
              rw [if_neg (by omega)]
              exact ⟨_, rfl⟩
            · intro k hk
              simp only [Option.map_eq_some_iff] at hk
              obtain ⟨k', hk', rfl⟩ := hk
              rw [hcap' k' hk']
            · rcases Nat.eq_zero_or_pos (c - l.toNat) with h0 | h0
              · exact .inl h0
              · right
                rcases c2 b base n hb with h00 | ⟨e1, e2⟩
                · omega
                · rw [if_neg (by omega), e1]
                  refine ⟨by simp [add_none, Nat.add_assoc], fun hn => ?_⟩
                  have hn' : cap = none := by cases cap <;> simp at hn ⊢
                  have := e2 hn'
                  have hm : c * sz' = l.toNat * sz' + (c - l.toNat) * sz' := by rw [← Nat.add_mul]; congr 1; omega
                  omega
          · cases hr
        · rename_i k m
          split at hr
          · rename_i hz
            simp only [Option.some.injEq] at hr; subst hr
            obtain ⟨u, e1, e2⟩ := three p len c l hh' k m rfl rfl o1 o2 hz
            exact ⟨u, e1, e2, rfl⟩
          · cases hr
        · cases hr
      · cases hr
    · cases hr
  · cases hr

end
end Go.Am
