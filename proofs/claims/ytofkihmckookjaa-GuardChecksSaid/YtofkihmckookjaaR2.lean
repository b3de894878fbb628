/-
  AN EXPRESSION's NODES AND DEPTH: boolexp.measure.
-/
import Derived.Test.YtofkihmckookjaaR1
namespace Go.Proofs.Ytofkihmckookjaa
open Go Go.Am

-- pneumatic/boolexp.preorder
def ic87 : IC := .seq (.region [⟨(some 1), .box (.t 0), none⟩,
    ⟨(some 2), .mov (.c (.nilf)), none⟩] none)
  (.seq (.region [⟨(some 3), .mkfn 101 [] [(.t 1)], none⟩,
    ⟨(some 2), .mov (.t 3), none⟩] none)
  (.ret))
theorem fn87 : env0.fn 87 = some ⟨4, ic87, [.t 2]⟩ := by kernel_rfl


theorem preorder87 (x : Ex) : PF Try.prog 87 [.agg (cX x)] (.fn 101 [] [.vptr (cX x)]) := by
  obtain ⟨op, ix, args⟩ := x
  refine PF_of_Z env0_ok fn87 [(0, .agg (cX (.nd op ix args)))] (by show 1 ≤ 4; decide) rfl fun w0 N0 => ?_
  unfold ic87
  repeat (first | refine z_seq ?_ | refine z_region rfl ?_ | refine o_nil ?_ | refine u_seq ?_ | refine z_ret ?_ | refine o_mov rfl ?_ | refine o_box rfl rfl ?_ | refine o_mkfn rfl rfl ?_)
  exact u_end ⟨.inr rfl, _, rfl, rfl⟩

-- pneumatic/boolexp.preorder$1
def ic101 : IC := .seq (.region [⟨(some 2), .box (.t 0), none⟩] none)
  (.seq (.region [⟨(some 3), .alloc [.nilf], none⟩] none)
  (.seq (.region [⟨(some 4), .mkfn 102 [] [(.t 2), (.t 3)], none⟩,
    ⟨none, .store 1 (.t 3) (.t 4), none⟩] none)
  (.region [⟨(some 5), .load none (.t 3), none⟩,
    ⟨(some 6), .load (some 3) (.t 1), none⟩,
    ⟨(some 7), .call (.t 5) [(.t 6), (.c (.int .i64 1))], none⟩] none)))
theorem fn101 : env0.fn 101 = some ⟨8, ic101, []⟩ := by kernel_rfl


section
variable {σ τ : Type} {step : σ → Int → Ex → σ ⊕ τ} {M : Nat → Prop} {I : σ → HS → Prop} {J : τ → HS → Prop}

/-- Ranging over the nodes: what is left behind all of them, or behind a stop. -/
theorem range101 {w0 : World} {N0 id sp : Nat} (hloc : Local M I) (hy : ∀ s d x H, I s H → CT Try.prog w0 N0 (.yield id sp) [.int .i64 d, .agg (cX x)] H (Left M I J H (step s d x))) (x : Ex) (H : HS) (s : σ) (hx : Slim x) (hI : I s H) :
    FT Try.prog w0 N0 101 [.yield id sp, .vptr (cX x)] H fun _ H' => Keep M H H' ∧ match walkX step 1 x s with
      | .inl s' => I s' H'
      | .inr t => J t H' := by
  refine FT_of_Z env0_ok fn101 [(0, .yield id sp), (1, .vptr (cX x))] (by show 2 ≤ 8; decide) rfl ?_
  obtain ⟨op, ix, args⟩ := x
  unfold ic101
  repeat (first | refine z_seq ?_ | refine z_region rfl ?_ | refine o_nil ?_ | refine u_seq ?_ | refine o_alloc ?_ | refine o_box rfl rfl ?_ | refine o_mkfn rfl rfl ?_)
  refine o_store rfl rfl rfl rfl look_top rfl rfl ?_
  rw [putl_top]
  repeat (first | refine z_region rfl ?_ | refine o_nil ?_ | refine u_seq ?_)
  refine o_loadm rfl look_top (Nat.lt_succ_self _) rfl ?_
  repeat (first | refine o_loadn rfl rfl rfl rfl ?_)
  have hlt := hloc.lt s H hI
  have hk0 : Keep M H ⟨(H.next + 1, H.clk + 1, .cells (setAt 0 [.nilf] [.fn 102 [] [.mptr H.next H.clk 0, .mptr (H.next + 1) (H.clk + 1) 0]])) :: (H.next, H.clk, .cells [.yield id sp]) :: H.heap, H.next + 1 + 1, H.clk + 1 + 1⟩ := (Keep.new M H (H.clk, .cells [.yield id sp])).trans (Keep.new M ⟨(H.next, H.clk, .cells [.yield id sp]) :: H.heap, H.next + 1, H.clk + 1⟩ (H.clk + 1, _))
  refine o_ct _ rfl rfl (ct_fn (visit102 hloc hy (SizeOf.sizeOf (Ex.nd op ix args)) (.nd op ix args) 1 ⟨_, _, _⟩ s (Nat.le_refl _) hx (by decide) (by decide) (hloc.of s H ⟨_, _, _⟩ hI hk0.next fun i hm => (look_new (Nat.lt_succ_of_lt (hlt i hm))).trans (look_new (hlt i hm)))
    ⟨fun hm => Nat.lt_irrefl _ (hlt _ hm), fun hm => Nat.not_succ_lt_self (hlt _ hm), (look_new (Nat.lt_succ_self _)).trans look_top, look_top, Nat.lt_succ_of_lt (Nat.lt_succ_self _), Nat.lt_succ_self _⟩)) (fun _ _ _ _ hm => absurd hm List.not_mem_nil) fun v H2 hF => ?_
  obtain ⟨hK, hF⟩ := hF
  repeat (first | refine o_nil ?_)
  refine u_end ⟨.inl rfl, _, rfl, hk0.trans hK, ?_⟩
  cases hw : walkX step 1 (.nd op ix args) s with
  | inl s' => rw [hw] at hF; exact hF.2
  | inr t => rw [hw] at hF; exact hF.2

end
end Go.Proofs.Ytofkihmckookjaa
