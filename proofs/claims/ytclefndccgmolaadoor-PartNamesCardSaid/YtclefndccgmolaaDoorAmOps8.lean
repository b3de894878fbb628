/-
  LOADS, STORES, NEW MEMORY. A general base for proofs: no program is named here.
-/
import Derived.Test.YtclefndccgmolaaDoorAmOps7
namespace Go.Am
open Go Go.RowKit

section
variable {P : Program} {w0 w : World} {N0 : Nat} {I : LI} {S S' : AS} {a : Act} {io : IOp} {v : AV}

/-- What a pointer leads to. -/
theorem deref_rel (h : HRel w0 N0 I S.heap S.next w) {p : AV} {u : Value} {cs : List AV} (hp : VRel w I.ro (some I) p u) (hd : S.deref p = some cs) :
    ∃ b o, u = .pointer (some ⟨b, o, none⟩) ∧ ∀ i x, cs[i]? = some x → ∃ y, w.cell? ⟨b, o + i, none⟩ = some y ∧ VRel w I.ro (some I) x y := by
  unfold AS.deref at hd
  split at hd
  · simp only [Option.some.injEq] at hd; subst hd
    cases hp with
    | @vptr _ _ b off us hc hv => exact ⟨b, off, rfl, fun i x hx => ⟨_, (hc i x hx).2, (hv i x hx).pure⟩⟩
  · rename_i id st off
    split at hd
    · rename_i st' cs' hl
      split at hd
      · rename_i hst; subst hst
        simp only [Option.some.injEq] at hd; subst hd
        cases hp with
        | mptr hk hcl =>
          obtain ⟨J, hJ, c1, c0, c2⟩ := hcl
          injection hJ with hJ; subst hJ
          obtain ⟨_, l, hl', hol⟩ := h.heap _ _ _ hl
          cases l with
          | void => exact absurd hl' c0
          | «at» b base n =>
            refine ⟨b, base + off, c2 _ _ _ hl', fun i x hx => ?_⟩
            obtain ⟨c, elem, h1, h2, h3, h4⟩ := hol
            rw [List.getElem?_drop] at hx
            have hlt : off + i < cs'.length := (List.getElem?_eq_some_iff.1 hx).1
            have : base + (off + i) < c.size := by omega
            refine ⟨c.getD (base + (off + i)) undef, ?_, h4 _ x hx⟩
            simp [World.cell?, h1, Nat.add_assoc, this, Array.getD_eq_getD_getElem?]
      · cases hd
    · cases hd
  · cases hd

theorem s_load (h : Rel w0 N0 I S a w) {t : TypeId} {g : Option Nat} {x : Operand} {ax : Arg} (hg : aggOf P t = some g) (hx : comOperand x = some ax) (hr : iop S (.load g ax) = some (v, S')) :
    ∃ u, (Instr.loadAt t (a.eval x)).run P w = .ok u w ∧ VRel w I.ro (some I) v u ∧ S' = S := by
  simp only [iop] at hr
  split at hr
  · rename_i p hp
    split at hr
    · rename_i cs hcs
      obtain ⟨b, o, hu, hc⟩ := deref_rel h.hrel (h.arg hx hp) hcs
      obtain ⟨g1, g2⟩ := rn_agg hg w
      rw [hu]
      split at hr
      · rename_i n
        split at hr
        · rename_i hle
          simp only [Option.some.injEq, Prod.mk.injEq] at hr
          obtain ⟨rfl, rfl⟩ := hr
          have key : ∀ j, j < n → w.cell? ((⟨b, o, none⟩ : Addr).add j) = some ((w.cell? ⟨b, o + j, none⟩).getD undef) := by
            intro j hj
            obtain ⟨y, hy, _⟩ := hc j cs[j] (by simp [show j < cs.length by omega])
            rw [add_none, hy]; rfl
          have rl := run_loadCells (P := P) w ⟨b, o, none⟩ n (fun j => (w.cell? ⟨b, o + j, none⟩).getD undef) key
          refine ⟨.agg ((List.range n).map fun j => (w.cell? ⟨b, o + j, none⟩).getD undef).toArray, by simp [Instr.loadAt, Instr.sureAddr, loadVar, g1, rn_size (g2 n rfl) w, rl], ?_, rfl⟩
          refine .agg (by simp; omega) fun i x hx => ?_
          have hi : i < n := by have := (List.getElem?_eq_some_iff.1 hx).1; simp at this; omega
          rw [List.getElem?_take_of_lt hi] at hx
          obtain ⟨y, hy, hxy⟩ := hc i x hx
          have : ((List.range n).map fun j => (w.cell? ⟨b, o + j, none⟩).getD undef).toArray.getD i undef = y := by
            simp [Array.getD_eq_getD_getElem?, hi, hy]
          rw [this]; exact hxy
        · cases hr
      · split at hr
        · rename_i x xs
          simp only [Option.some.injEq, Prod.mk.injEq] at hr
          obtain ⟨rfl, rfl⟩ := hr
          obtain ⟨y, hy, hxy⟩ := hc 0 x (by simp)
          simp only [Nat.add_zero] at hy
          refine ⟨y, ?_, hxy, rfl⟩
          simp [Instr.loadAt, Instr.sureAddr, loadVar, g1, run_load, hy]
        · cases hr
    · cases hr
  · cases hr

/-- New memory: a block whose cells are known. -/
theorem new_rel (h : Rel w0 N0 I S a w) {cs : List AV} {us : Array Value} {elem : TypeId} (hc : ∀ (i : Nat) (x : AV), cs[i]? = some x → VRel w I.ro (some I) x (us.getD i undef)) (hle : cs.length ≤ us.size) :
    Rel w0 N0 (I.bind S.next (.at w.heap.size 0 us.size)) (S.new (.cells cs)) a (w.alloc (.cells us elem)) ∧ Evo I w (I.bind S.next (.at w.heap.size 0 us.size)) (w.alloc (.cells us elem)) := by
  have hN : N0 ≤ w.heap.size := Nat.le_trans h.hrel.base h.hrel.below.size
  have hb : Below N0 w (w.alloc (.cells us elem)) := (Below.refl _ _).alloc hN _
  have key := h.hrel.bind (w' := w.alloc (.cells us elem)) (id := S.next) (next' := S.next + 1) (l := .at w.heap.size 0 us.size) (o := .cells cs) hb
    (fun b hb' _ => Below.heap_alloc w _ b hb')
    (fun b base n e => by injection e with e1 e2 e3; subst e1; exact .inl (Nat.le_refl _))
    (fun e => ⟨us, elem, World.alloc_heap_new w _, rfl, by omega, fun i x hx => by rw [Nat.zero_add]; exact (hc i x hx).evo e⟩)
    (Nat.le_succ _) (Nat.lt_succ_self _)
  obtain ⟨k1, k2⟩ := key
  refine ⟨⟨?_, h.tmps.evo k2, ?_, ?_⟩, k2⟩
  · simp [LI.bind, AS.new, h.clk]
  · -- the new name is in front
    have hfree := h.hrel.free S.next (Nat.le_refl _)
    have hlook : ∀ i, look i ((S.next, I.clk, AObj.cells cs) :: S.heap) = look i (putl S.next (I.clk, AObj.cells cs) S.heap) := by
      intro i; rw [look_putl, look_cons]
    refine ⟨k1.below, k1.base, fun i st o hi => ?_, fun i st l hl => ?_, k1.inj, k1.fresh, fun i hi => ?_, k1.okN, k1.glob⟩
    · simp only [AS.new, ← h.clk] at hi; rw [hlook] at hi; exact k1.heap i st o hi
    · obtain ⟨o, ho⟩ := k1.locs i st l hl
      exact ⟨o, by simp only [AS.new, ← h.clk]; rw [hlook]; exact ho⟩
    · simp only [AS.new, ← h.clk]; rw [hlook]; exact k1.free i hi
  · refine (h.marks.bind (id := S.next) (s := I.clk) (o := .cells cs) fun st e => ?_).congr fun i => ?_
    · rw [h.hrel.free _ (Nat.le_refl _)] at e; cases e
    · simp only [AS.new, ← h.clk]; rw [look_putl, look_cons]

end
end Go.Am
