/-
  ADDRESSES, FIELDS, INDEXES, LENGTHS. A general base for proofs: no program is named here.
-/
import Derived.Test.YtclefndccgmolaaDoorAmOps6
namespace Go.Am
open Go Go.RowKit

section
variable {P : Program} {w0 w : World} {N0 : Nat} {I : LI} {S S' : AS} {a : Act} {io : IOp} {v : AV}

theorem s_slstr (h : Rel w0 N0 I S a w) {t : TypeId} {x : Operand} {lo hi : Option Operand} {ax : Arg} {al ah : Option Arg} (hu : P.underlying t = some .string)
    (hx : comOperand x = some ax) (hl : comO lo = some al) (hh : comO hi = some ah) (hr : iop S (.slstr ax al ah) = some (v, S')) :
    ∃ u, (Instr.sliceAt t (a.eval x) (lo.map a.eval) (hi.map a.eval) none).run P w = .ok u w ∧ VRel w I.ro (some I) v u ∧ S' = S := by
  simp only [iop] at hr
  split at hr
  · rename_i s lv hv hxv hlv hhv
    split at hr
    · rename_i l hh' o1 o2
      split at hr
      · rename_i hz
        simp only [Option.some.injEq, Prod.mk.injEq] at hr
        obtain ⟨rfl, rfl⟩ := hr
        have hX := h.arg hx hxv
        generalize a.eval x = xu at hX
        cases hX
        rename_i b
        have e : b.size = b.data.toList.length := rfl
        have r := run_bounds2 (P := P) (w := w) (isSlice := false) (len := b.size) (cap := b.size) (oint h hl hlv o1).1 (oint h hh hhv (by rw [e]; exact o2)).1 hz.1 hz.2.1 (by rw [e]; exact hz.2.2)
        refine ⟨.string (b.extract l.toNat hh'.toNat), by simp [Instr.sliceAt, Instr.slice, rn_underlying hu, r], ?_, rfl⟩
        have : (b.extract l.toNat hh'.toNat).data.toList = (b.data.toList.drop l.toNat).take (hh'.toNat - l.toNat) := by
          rw [ByteArray.data_extract, Array.toList_extract]
        rw [← this]
        exact .str
      · cases hr
    · cases hr
  · cases hr

theorem s_slarr (h : Rel w0 N0 I S a w) {t e : TypeId} {n sz : Nat} {x : Operand} {lo hi : Option Operand} {ax : Arg} {al ah : Option Arg} (hu : P.underlying t = some (.array n e)) (hs : sizeOf? P e = some sz)
    (hx : comOperand x = some ax) (hl : comO lo = some al) (hh : comO hi = some ah) (hr : iop S (.slarr n sz ax al ah) = some (v, S')) :
    ∃ u, (Instr.sliceAt t (a.eval x) (lo.map a.eval) (hi.map a.eval) none).run P w = .ok u w ∧ VRel w I.ro (some I) v u ∧ S' = S := by
  simp only [iop] at hr
  split at hr
  · rename_i id st off lv hv hxv hlv hhv
    split at hr
    · rename_i l hh' o1 o2
      split at hr
      · rename_i hz
        obtain ⟨b0, b1, b2⟩ := hz
        simp only [Option.some.injEq, Prod.mk.injEq] at hr
        obtain ⟨rfl, rfl⟩ := hr
        have hX := h.arg hx hxv
        generalize a.eval x = xu at hX
        cases hX with
        | mptr hk hcl =>
          obtain ⟨p, rfl⟩ := hk
          have r := run_bounds2 (P := P) (w := w) (isSlice := false) (len := n) (cap := n) (oint h hl hlv o1).1 (oint h hh hhv o2).1 b0 b1 b2
          refine ⟨.slice (some (if n = l.toNat then p else p.add (l.toNat * sz))) (hh'.toNat - l.toNat) (n - l.toNat), by simp [Instr.sliceAt, Instr.sureAddr, rn_underlying hu, r, rn_size hs], ?_, rfl⟩
          obtain ⟨J, hJ, c1, c0, c2⟩ := hcl
          injection hJ with hJ; subst hJ
          refine .ms (by omega) (fun _ => ⟨_, rfl⟩) (fun k hk => by injection hk) ⟨I, rfl, c1, fun b base n' hb => ?_, fun hb => absurd hb c0⟩
          rcases Nat.eq_zero_or_pos (n - l.toNat) with h0 | h0
          · exact .inl h0
          · right
            have := c2 b base n' hb
            injection this with this; injection this with this; subst this
            rw [if_neg (by omega)]
            exact ⟨by simp [add_none, Nat.add_assoc], fun hn => by cases hn⟩
      · cases hr
    · cases hr
  · cases hr

theorem vptr_drop {w : World} {ro : Nat → Prop} {L : Option LI} {cs : List AV} {b off : Nat} (us : Nat → Value) (hc : ∀ i x, cs[i]? = some x → ro b ∧ w.cell? ⟨b, off + i, none⟩ = some (us i))
    (hv : ∀ i x, cs[i]? = some x → VRel w ro none x (us i)) (k : Nat) : VRel w ro L (.vptr (cs.drop k)) (.pointer (some ⟨b, off + k, none⟩)) := by
  refine .vptr (fun i => us (k + i)) (fun i x hx => ?_) (fun i x hx => ?_)
  · rw [List.getElem?_drop] at hx
    rw [Nat.add_assoc]
    exact hc _ x hx
  · rw [List.getElem?_drop] at hx
    exact hv _ x hx

theorem mptr_add {w : World} {ro : Nat → Prop} {id st off k : Nat} {p : Addr} (h : VRel w ro (some I) (.mptr id st off) (.pointer (some p))) : VRel w ro (some I) (.mptr id st (off + k)) (.pointer (some (p.add k))) := by
  cases h with
  | mptr hk hcl =>
    obtain ⟨J, hJ, c1, c0, c2⟩ := hcl
    injection hJ with hJ; subst hJ
    refine .mptr ⟨_, rfl⟩ ⟨I, rfl, c1, c0, fun b base n hb => ?_⟩
    have := c2 b base n hb
    injection this with this; injection this with this; subst this
    simp [add_none, Nat.add_assoc]

theorem s_faddr (h : Rel w0 N0 I S a w) {t : TypeId} {fs : Array Field} {f : Field} {i s : Nat} {x : Operand} {ax : Arg} (hu : P.underlying t = some (.struct fs)) (hf : fs[i]? = some f) (hs : sizeOf? P f.type = some s) (h0 : s ≠ 0)
    (hx : comOperand x = some ax) (hr : iop S (.faddr f.offset ax) = some (v, S')) :
    ∃ u, (Instr.fieldAt t (a.eval x) i).run P w = .ok u w ∧ VRel w I.ro (some I) v u ∧ S' = S := by
  have run : ∀ p : Addr, a.eval x = .pointer (some p) → (Instr.fieldAt t (a.eval x) i).run P w = .ok (.pointer (some (p.add f.offset))) w := by
    intro p e; rw [e]
    simp [Instr.fieldAt, rn_underlying hu, hf, Instr.sureAddr, fieldPlace, rn_size hs, h0]
  simp only [iop] at hr
  split at hr
  · rename_i cs hxv
    split at hr
    · simp only [Option.some.injEq, Prod.mk.injEq] at hr
      obtain ⟨rfl, rfl⟩ := hr
      have hX := h.arg hx hxv
      generalize he : a.eval x = xu at hX
      cases hX with
      | vptr us hc hv =>
        refine ⟨_, he ▸ run _ he, ?_, rfl⟩
        rw [add_none]
        exact vptr_drop us hc hv f.offset
    · cases hr
  · rename_i id st o hxv
    simp only [Option.some.injEq, Prod.mk.injEq] at hr
    obtain ⟨rfl, rfl⟩ := hr
    have hX := h.arg hx hxv
    generalize he : a.eval x = xu at hX
    obtain ⟨p, rfl⟩ : ∃ p, xu = .pointer (some p) := by cases hX with | mptr hk _ => exact hk
    exact ⟨_, he ▸ run _ he, mptr_add hX, rfl⟩
  · cases hr

theorem s_field (h : Rel w0 N0 I S a w) {t : TypeId} {fs : Array Field} {f : Field} {i : Nat} {g : Option Nat} {x : Operand} {ax : Arg} (hu : P.underlying t = some (.struct fs)) (hf : fs[i]? = some f) (hg : aggOf P f.type = some g)
    (hx : comOperand x = some ax) (hr : iop S (.field f.offset g ax) = some (v, S')) :
    ∃ u, (Instr.field t (a.eval x) i).run P w = .ok u w ∧ VRel w I.ro (some I) v u ∧ S' = S := by
  simp only [iop] at hr
  split at hr
  · rename_i cs hxv
    have hX := h.arg hx hxv
    generalize a.eval x = xu at hX
    cases hX with
    | @agg _ _ us h1 h2 =>
      obtain ⟨p1, p2⟩ := rn_part hg us f.offset w
      have run : ∀ u, (part f.type us f.offset).run P w = .ok u w → (Instr.field t (.agg us) i).run P w = .ok u w := by
        intro u e; simp [Instr.field, rn_underlying hu, hf, asAgg, e]
      split at hr
      · rename_i n
        split at hr
        · rename_i hle
          simp only [Option.some.injEq, Prod.mk.injEq] at hr
          obtain ⟨rfl, rfl⟩ := hr
          exact ⟨_, run _ (p1 n rfl), agg_take h1 h2 hle, rfl⟩
        · cases hr
      · simp only [Option.map_eq_some_iff, Prod.mk.injEq] at hr
        obtain ⟨c, hc, rfl, rfl⟩ := hr
        have e1 : us[f.offset]? = some (us.getD f.offset undef) := by
          have : f.offset < us.size := by rw [h1]; exact (List.getElem?_eq_some_iff.1 hc).1
          simp [Array.getD_eq_getD_getElem?, this]
        exact ⟨_, run _ (p2 _ rfl e1), h2 _ _ hc, rfl⟩
  · cases hr

theorem run_indexAt_slice {t e : TypeId} {sz : Nat} (hu : P.underlying t = some (.slice e)) (hs : sizeOf? P e = some sz) {q : Addr} {len c : Nat} {k : IntKind} {n : Int} (h0 : 0 ≤ n) (h1 : n < len) :
    (Instr.indexAt t (.slice (some q) len c) (.int k n)).run P w = .ok (.pointer (some (q.add (n.toNat * sz)))) w := by
  have : (0 ≤ n ∧ n < (len : Int)) := ⟨h0, h1⟩
  simp [Instr.indexAt, asIntOf, rn_underlying hu, rn_size hs, this]

theorem s_idxs (h : Rel w0 N0 I S a w) {t e : TypeId} {sz : Nat} {x i : Operand} {ax ai : Arg} (hu : P.underlying t = some (.slice e)) (hs : sizeOf? P e = some sz)
    (hx : comOperand x = some ax) (hi : comOperand i = some ai) (hr : iop S (.idxs sz ax ai) = some (v, S')) :
    ∃ u, (Instr.indexAt t (a.eval x) (a.eval i)).run P w = .ok u w ∧ VRel w I.ro (some I) v u ∧ S' = S := by
  simp only [iop] at hr
  split at hr
  · rename_i es k n hxv hiv
    split at hr
    · rename_i hn
      split at hr
      · rename_i e' he'
        split at hr
        · rename_i hsz
          simp only [Option.some.injEq, Prod.mk.injEq] at hr
          obtain ⟨rfl, rfl⟩ := hr
          have hX := h.arg hx hxv
          have hI := h.arg hi hiv
          generalize a.eval x = xu at hX
          generalize a.eval i = iu at hI
          cases hI
          cases hX with
          | @vs _ _ p len c sz' b off us hl hcap ha hszz hc hv =>
            have hne : es ≠ [] := by intro e0; subst e0; simp at he'
            have hm := List.mem_of_getElem? he'
            have : sz' = sz := (hszz e' hm).symm.trans hsz
            subst this
            rw [ha hne]
            refine ⟨_, run_indexAt_slice hu hs hn.1 (by rw [hl]; exact hn.2), ?_, rfl⟩
            rw [add_none]
            refine .vptr (fun j => us n.toNat j) (fun j x hx => ?_) (fun j x hx => hv _ _ _ _ he' hx)
            exact hc _ _ _ _ he' hx
        · cases hr
      · cases hr
    · cases hr
  · rename_i id st sz' off len cap k n hxv hiv
    split at hr
    · rename_i hn
      obtain ⟨rfl, n0, n1⟩ := hn
      simp only [Option.some.injEq, Prod.mk.injEq] at hr
      obtain ⟨rfl, rfl⟩ := hr
      have hX := h.arg hx hxv
      have hI := h.arg hi hiv
      generalize a.eval x = xu at hX
      generalize a.eval i = iu at hI
      cases hI
      cases hX with
      | @ms _ _ _ _ _ _ _ p c hl hp hcap hcl =>
        obtain ⟨q, rfl⟩ := hp (by omega)
        refine ⟨_, run_indexAt_slice hu hs n0 n1, ?_, rfl⟩
        obtain ⟨J, hJ, c1, c2, c3⟩ := hcl
        injection hJ with hJ; subst hJ
        refine .mptr ⟨_, rfl⟩ ⟨I, rfl, c1, fun hv => by have := c3 hv; omega, fun b base n' hb => ?_⟩
        rcases c2 b base n' hb with h00 | ⟨e1, _⟩
        · omega
        · injection e1 with e1; subst e1
          simp [add_none, Nat.add_assoc]
    · cases hr
  · cases hr

theorem run_indexAt_array {t e : TypeId} {len sz : Nat} (hu : P.underlying t = some (.array len e)) (hs : sizeOf? P e = some sz) {q : Addr} {k : IntKind} {n : Int} (h0 : 0 ≤ n) (h1 : n < len) :
    (Instr.indexAt t (.pointer (some q)) (.int k n)).run P w = .ok (.pointer (some (q.add (n.toNat * sz)))) w := by
  have : (0 ≤ n ∧ n < (len : Int)) := ⟨h0, h1⟩
  simp [Instr.indexAt, asIntOf, rn_underlying hu, rn_size hs, this, Instr.sureAddr]

theorem s_idxarr (h : Rel w0 N0 I S a w) {t e : TypeId} {len sz : Nat} {x i : Operand} {ax ai : Arg} (hu : P.underlying t = some (.array len e)) (hs : sizeOf? P e = some sz)
    (hx : comOperand x = some ax) (hi : comOperand i = some ai) (hr : iop S (.idxarr len sz ax ai) = some (v, S')) :
    ∃ u, (Instr.indexAt t (a.eval x) (a.eval i)).run P w = .ok u w ∧ VRel w I.ro (some I) v u ∧ S' = S := by
  simp only [iop] at hr
  split at hr
  · rename_i cs k n hxv hiv
    split at hr
    · rename_i hn
      simp only [Option.some.injEq, Prod.mk.injEq] at hr
      obtain ⟨rfl, rfl⟩ := hr
      have hX := h.arg hx hxv
      have hI := h.arg hi hiv
      generalize a.eval x = xu at hX
      generalize a.eval i = iu at hI
      cases hI
      cases hX with
      | vptr us hc hv =>
        refine ⟨_, run_indexAt_array hu hs hn.1 hn.2.1, ?_, rfl⟩
        rw [add_none]
        exact vptr_drop us hc hv _
    · cases hr
  · rename_i id st off k n hxv hiv
    split at hr
    · rename_i hn
      simp only [Option.some.injEq, Prod.mk.injEq] at hr
      obtain ⟨rfl, rfl⟩ := hr
      have hX := h.arg hx hxv
      have hI := h.arg hi hiv
      generalize a.eval x = xu at hX
      generalize a.eval i = iu at hI
      cases hI
      obtain ⟨p, rfl⟩ : ∃ p, xu = .pointer (some p) := by cases hX with | mptr hk _ => exact hk
      exact ⟨_, run_indexAt_array hu hs hn.1 hn.2, mptr_add hX, rfl⟩
    · cases hr
  · cases hr

theorem s_idxagg (h : Rel w0 N0 I S a w) {t e : TypeId} {len sz : Nat} {g : Option Nat} {x i : Operand} {ax ai : Arg} (hu : P.underlying t = some (.array len e)) (hs : sizeOf? P e = some sz) (hg : aggOf P e = some g)
    (hx : comOperand x = some ax) (hi : comOperand i = some ai) (hr : iop S (.idxagg len sz g.isSome ax ai) = some (v, S')) :
    ∃ u, (Instr.index t (a.eval x) (a.eval i)).run P w = .ok u w ∧ VRel w I.ro (some I) v u ∧ S' = S := by
  simp only [iop] at hr
  split at hr
  · rename_i cs k n hxv hiv
    split at hr
    · rename_i hn
      obtain ⟨n0, n1, n2⟩ := hn
      have hX := h.arg hx hxv
      have hI := h.arg hi hiv
      generalize a.eval x = xu at hX
      generalize a.eval i = iu at hI
      cases hI
      cases hX with
      | @agg _ _ us h1 h2 =>
        have hb : (0 ≤ n ∧ n < (len : Int)) := ⟨n0, n1⟩
        have run : ∀ u, (part e us (n.toNat * sz)).run P w = .ok u w → (Instr.index t (.agg us) (.int k n)).run P w = .ok u w := by
          intro u eq; simp [Instr.index, asIntOf, rn_underlying hu, rn_size hs, hb, eq]
        obtain ⟨p1, p2⟩ := rn_part hg us (n.toNat * sz) w
        cases g with
        | some m =>
          have : m = sz := by
            have := (rn_agg hg w).2 m rfl
            rw [hs] at this; injection this with this; exact this.symm
          subst this
          simp only [Option.isSome_some, if_true, Option.some.injEq, Prod.mk.injEq] at hr
          obtain ⟨rfl, rfl⟩ := hr
          exact ⟨_, run _ (p1 m rfl), agg_take h1 h2 n2, rfl⟩
        | none =>
          simp only [Option.isSome_none, Bool.false_eq_true, if_false, Option.map_eq_some_iff, Prod.mk.injEq] at hr
          obtain ⟨c, hc, rfl, rfl⟩ := hr
          have e1 : us[n.toNat * sz]? = some (us.getD (n.toNat * sz) undef) := by
            have : n.toNat * sz < us.size := by rw [h1]; exact (List.getElem?_eq_some_iff.1 hc).1
            simp [Array.getD_eq_getD_getElem?, this]
          exact ⟨_, run _ (p2 _ rfl e1), h2 _ _ hc, rfl⟩
    · cases hr
  · cases hr

theorem s_idxstr (h : Rel w0 N0 I S a w) {t : TypeId} {x i : Operand} {ax ai : Arg} (hu : P.underlying t = some .string)
    (hx : comOperand x = some ax) (hi : comOperand i = some ai) (hr : iop S (.idxstr ax ai) = some (v, S')) :
    ∃ u, (Instr.index t (a.eval x) (a.eval i)).run P w = .ok u w ∧ VRel w I.ro (some I) v u ∧ S' = S := by
  simp only [iop] at hr
  split at hr
  · rename_i s k n hxv hiv
    split at hr
    · rename_i hn
      split at hr
      · rename_i bt hbt
        simp only [Option.some.injEq, Prod.mk.injEq] at hr
        obtain ⟨rfl, rfl⟩ := hr
        have hX := h.arg hx hxv
        have hI := h.arg hi hiv
        generalize a.eval x = xu at hX
        generalize a.eval i = iu at hI
        cases hI
        cases hX
        rename_i t'
        have : t'[n.toNat]? = some bt := by
          have h1 : t'.data[n.toNat]? = some bt := by simpa using hbt
          have hlt : n.toNat < t'.size := (Array.getElem?_eq_some_iff.1 h1).1
          rw [getElem?_pos t' n.toNat hlt]
          exact congrArg some (Array.getElem?_eq_some_iff.1 h1).2
        refine ⟨.int .u8 bt.toNat, by simp [Instr.index, asIntOf, rn_underlying hu, hn, this], .int, rfl⟩
      · cases hr
    · cases hr
  · cases hr

end
end Go.Am
