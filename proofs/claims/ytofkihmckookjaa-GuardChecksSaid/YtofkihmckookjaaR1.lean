/-
  THE WALK OF AN EXPRESSION: what the function that visits it leaves, whatever is done at each node.
-/
import Derived.Test.YtofkihmckookjaaT2
namespace Go.Proofs.Ytofkihmckookjaa
open Go Go.Am

def body102 : IC := .seq (.region [⟨(some 18), .bin .lss (.t 17) (.t 16), none⟩] none)
  (.seq (.cond (.t 18) (.skip)
  (.exit 0))
  (.seq (.block 1 (.seq (.region [⟨(some 19), .idxs 3 (.t 15) (.t 17), none⟩,
    ⟨(some 20), .load (some 3) (.t 19), none⟩,
    ⟨(some 8), .alloc [.int .i64 0, .int .i64 0, .nils], none⟩,
    ⟨none, .store 3 (.t 8) (.t 20), none⟩] none)
  (.seq (.region [⟨(some 21), .mov (.t 1), none⟩,
    ⟨(some 22), .bin .leq (.t 21) (.c (.int .i64 16)), none⟩,
    ⟨(some 23), .mov (.t 22), none⟩,
    ⟨(some 24), .load none (.t 3), some (23, true)⟩,
    ⟨(some 25), .load (some 3) (.t 8), some (23, true)⟩,
    ⟨(some 26), .mov (.t 1), some (23, true)⟩,
    ⟨(some 27), .bin .add (.t 26) (.c (.int .i64 1)), some (23, true)⟩,
    ⟨(some 28), .call (.t 24) [(.t 25), (.t 27)], some (23, true)⟩,
    ⟨(some 29), .un .not (.t 28), some (23, true)⟩,
    ⟨(some 30), .pick (.t 23) (.t 29) (.c (.bool false)), none⟩] none)
  (.cond (.t 30) (.seq (.region [⟨(some 6), .mov (.c (.bool false)), none⟩] none)
  (.ret))
  (.skip)))))
  (.region [⟨(some 31), .bin .add (.t 17) (.c (.int .i64 1)), none⟩,
    ⟨(some 17), .mov (.t 31), none⟩] none)))

-- pneumatic/boolexp.preorder$1$1
def ic102 : IC := .seq (.region [⟨(some 4), .box (.t 0), none⟩,
    ⟨(some 6), .mov (.c (.bool false)), none⟩] none)
  (.seq (.seq (.region [⟨(some 9), .load none (.t 2), none⟩,
    ⟨(some 10), .mov (.t 1), none⟩,
    ⟨(some 11), .load (some 3) (.t 4), none⟩,
    ⟨(some 12), .call (.t 9) [(.t 10), (.t 11)], none⟩,
    ⟨(some 13), .un .not (.t 12), none⟩] none)
  (.cond (.t 13) (.seq (.region [⟨(some 6), .mov (.c (.bool false)), none⟩] none)
  (.ret))
  (.skip)))
  (.seq (.seq (.region [⟨(some 14), .faddr 2 (.t 4), none⟩,
    ⟨(some 15), .load none (.t 14), none⟩,
    ⟨(some 16), .len false (.t 15), none⟩,
    ⟨(some 17), .mov (.c (.int .i64 0)), none⟩] none)
  (.block 0 (.loop body102)))
  (.seq (.region [⟨(some 6), .mov (.c (.bool true)), none⟩] none)
  (.ret))))
theorem fn102 : env0.fn 102 = some ⟨32, ic102, [.t 6]⟩ := by kernel_rfl


/-- The visiting function's own variables. -/
structure Cap (M : Nat → Prop) (a sa b sb id sp : Nat) (H : HS) : Prop where
  na : ¬ M a
  nb : ¬ M b
  ha : Am.look a H.heap = some (sa, .cells [.yield id sp])
  hb : Am.look b H.heap = some (sb, .cells [.fn 102 [] [.mptr a sa 0, .mptr b sb 0]])
  la : a < H.next
  lb : b < H.next

theorem Cap.keep {M : Nat → Prop} {a sa b sb id sp : Nat} {H H' : HS} (h : Cap M a sa b sb id sp H) (k : Keep M H H') : Cap M a sa b sb id sp H' :=
  ⟨h.na, h.nb, (k.look a h.na h.la).trans h.ha, (k.look b h.nb h.lb).trans h.hb, Nat.lt_of_lt_of_le h.la k.next, Nat.lt_of_lt_of_le h.lb k.next⟩

section
variable {σ τ : Type} (step : σ → Int → Ex → σ ⊕ τ) (M : Nat → Prop) (I : σ → HS → Prop) (J : τ → HS → Prop)

/-- What is left by a step, or by a walk. -/
def Left (H : HS) (o : σ ⊕ τ) (v : AV) (H' : HS) : Prop :=
  Keep M H H' ∧ match o with
    | .inl s => v = .bool true ∧ I s H'
    | .inr t => v = .bool false ∧ J t H'

variable {step M I J}

set_option maxHeartbeats 4000000 in
theorem visit102 {w0 : World} {N0 a sa b sb id sp : Nat} (hloc : Local M I) (hy : ∀ s d x H, I s H → CT Try.prog w0 N0 (.yield id sp) [.int .i64 d, .agg (cX x)] H (Left M I J H (step s d x))) :
    ∀ (n : Nat) (x : Ex) (d : Int) (H : HS) (s : σ), SizeOf.sizeOf x ≤ n → Slim x → 0 ≤ d → d ≤ 17 → I s H → Cap M a sa b sb id sp H →
      FT Try.prog w0 N0 102 [.agg (cX x), .int .i64 d, .mptr a sa 0, .mptr b sb 0] H (Left M I J H (walkX step d x s)) := by
  intro n
  induction n with
  | zero => intro x d H s hn; cases x; simp at hn
  | succ n ih =>
    intro x d H s hn hw h0 h17 hI hC
    obtain ⟨op, ix, args⟩ := x
    refine FT_of_Z env0_ok fn102 [(0, .agg (cX (.nd op ix args))), (1, .int .i64 d), (2, .mptr a sa 0), (3, .mptr b sb 0)] (by show 4 ≤ 32; decide) rfl ?_
    unfold ic102
    repeat (first | refine z_seq ?_ | refine z_region rfl ?_ | refine o_nil ?_ | refine u_seq ?_ | refine o_mov rfl ?_ | refine o_box rfl rfl ?_)
    have hC1 := hC.keep (Keep.new M H (H.clk, .cells (cX (.nd op ix args))))
    refine o_loadm rfl hC1.ha hC1.la rfl ?_
    repeat (first | refine o_mov rfl ?_)
    refine o_loadnm rfl look_top (Nat.lt_succ_self _) rfl rfl ?_
    refine o_ct _ rfl rfl (hy s d (.nd op ix args) ⟨_, _, _⟩ (hloc.new hI _ _)) (fun _ _ _ _ hm => absurd hm List.not_mem_nil) fun v H2 hF => ?_
    obtain ⟨hK, hF⟩ := hF
    have hK2 : Keep M H H2 := (Keep.new M H _).trans hK
    have hC2 := hC.keep hK2
    obtain ⟨hlen, hsl⟩ : args.length < 9223372036854775808 ∧ ∀ y ∈ args, Slim y := by cases hw with | nd h k => exact ⟨h, k⟩
    have hwx : walkX step d (.nd op ix args) s = match step s d (.nd op ix args) with | .inr t => .inr t | .inl s' => walkL step d args s' := by rw [walkX]; cases step s d (.nd op ix args) <;> rfl
    rw [hwx]
    cases hst : step s d (.nd op ix args) with
    | inr t =>
      rw [hst] at hF
      obtain ⟨rfl, hJ⟩ := hF
      repeat (first | refine z_seq ?_ | refine z_region rfl ?_ | refine o_nil ?_ | refine u_seq ?_ | refine z_ct rfl ?_ | refine z_ret ?_ | refine u_ret_seq ?_ | refine o_mov rfl ?_ | refine o_un rfl rfl ?_)
      exact u_end ⟨.inr rfl, _, rfl, hK2, rfl, hJ⟩
    | inl s1 =>
      rw [hst] at hF
      obtain ⟨rfl, hI1⟩ := hF
      repeat (first | refine z_seq ?_ | refine z_region rfl ?_ | refine o_nil ?_ | refine u_seq ?_ | refine z_skip ?_ | refine z_cf rfl ?_ | refine o_faddrm rfl ?_ | refine o_un rfl rfl ?_)
      refine o_loadm rfl ((hK.look H.next (fun hm => Nat.lt_irrefl _ (hloc.lt s H hI _ hm)) (Nat.lt_succ_self _)).trans look_top) (Nat.lt_of_lt_of_le (Nat.lt_succ_self _) hK.next) rfl ?_
      repeat (first | refine o_nil ?_ | refine u_seq ?_ | refine z_block ?_ | refine o_mov rfl ?_ | refine o_len rfl rfl ?_)
      refine z_loop (fun m S => ∃ i s' H', m = args.length - i ∧ i ≤ args.length ∧ walkL step d args s1 = walkL step d (args.drop i) s' ∧ I s' H' ∧ Keep M H H' ∧
          S = st 32 [(1, .int .i64 d), (3, .mptr b sb 0), (15, .vs (cXs args)), (16, .int .i64 (cXs args).length), (17, .int .i64 (i : Nat))] H'.heap H'.next H'.clk) args.length
        (sub_keep (.cons rfl (.cons rfl (.cons rfl (.cons rfl (.cons rfl .nil)))))) ⟨0, s1, H2, rfl, Nat.zero_le _, rfl, hI1, hK2, rfl⟩ ?_
      rintro m S ⟨i, s', H', rfl, hi, hwl, hI', hK', rfl⟩
      have hC' := hC.keep hK'
      unfold body102
      repeat (first | refine z_seq ?_ | refine z_region rfl ?_)
      refine o_cmp rfl rfl rfl (fun h1 => ?_) fun h1 => ?_
      · have hlt : i < args.length := by
          have := of_decide_eq_true h1
          rw [cXs_length] at this
          omega
        have hd : args.drop i = args[i] :: args.drop (i + 1) := List.drop_eq_getElem_cons hlt
        rw [hd] at hwl
        have hge := cXs_get hlt
        have hmem : args[i] ∈ args := List.getElem_mem hlt
        generalize args[i] = y at hwl hge hmem
        obtain ⟨yo, yi, ya⟩ := y
        repeat (first | refine z_seq ?_ | refine z_region rfl ?_ | refine o_nil ?_ | refine u_seq ?_ | refine z_block ?_ | refine z_skip ?_ | refine z_ct rfl ?_)
        refine o_idxs rfl rfl (Int.natCast_nonneg i) hge rfl ?_
        repeat (first | refine o_loadn rfl rfl rfl rfl ?_ | refine o_alloc ?_)
        refine o_store rfl rfl rfl rfl look_top rfl rfl ?_
        rw [putl_top]
        repeat (first | refine z_seq ?_ | refine z_region rfl ?_ | refine o_nil ?_ | refine u_seq ?_ | refine o_mov rfl ?_)
        refine o_cmp rfl rfl rfl (fun h2 => ?_) fun h2 => ?_
        · have hd1 : d ≤ 16 := of_decide_eq_true h2
          repeat (first | refine o_gy rfl ?_ | refine o_mov rfl ?_)
          refine o_loadm rfl ((look_new hC'.lb).trans hC'.hb) (Nat.lt_succ_of_lt hC'.lb) rfl ?_
          repeat (first | refine o_gy rfl ?_)
          refine o_loadnm rfl look_top (Nat.lt_succ_self _) rfl rfl ?_
          repeat (first | refine o_gy rfl ?_ | refine o_mov rfl ?_ | refine o_bin (op := .add) rfl rfl rfl ?_)
          rw [show IntKind.wrap .i64 (d + 1) = d + 1 from wrap_small _ (by omega) (by omega)]
          refine o_ct _ rfl rfl (ct_fn (ih (.nd yo yi ya) (d + 1) ⟨_, _, _⟩ s' (by have := sz_mem (op := op) (ix := ix) hmem; omega) (hsl _ hmem) (by omega) (by omega) (hloc.new hI' _ _) (hC'.keep (Keep.new M H' _)))) (fun _ _ _ _ hm => absurd hm List.not_mem_nil) fun v H3 hF3 => ?_
          obtain ⟨hK3, hF3⟩ := hF3
          have hK4 : Keep M H H3 := hK'.trans ((Keep.new M H' _).trans hK3)
          cases hwk : walkX step (d + 1) (.nd yo yi ya) s' with
          | inr t =>
            rw [hwk] at hF3
            obtain ⟨rfl, hJ⟩ := hF3
            repeat (first | refine z_seq ?_ | refine z_region rfl ?_ | refine o_nil ?_ | refine u_seq ?_ | refine z_ct rfl ?_ | refine z_ret ?_ | refine u_ret_seq ?_ | refine u_ret_blk ?_ | refine o_gy rfl ?_ | refine o_mov rfl ?_ | refine o_pickt rfl rfl ?_ | refine o_un rfl rfl ?_)
            refine u_out_ret ?_
            repeat (first | refine u_ret_seq ?_ | refine u_ret_blk ?_)
            refine u_end ⟨.inr rfl, _, rfl, hK4, ?_⟩
            simp only [hwl, walkL, if_pos hd1, hwk]
            exact ⟨trivial, hJ⟩
          | inl s2 =>
            rw [hwk] at hF3
            obtain ⟨rfl, hI2⟩ := hF3
            repeat (first | refine z_region rfl ?_ | refine o_nil ?_ | refine u_seq ?_ | refine u_blk ?_ | refine z_skip ?_ | refine z_cf rfl ?_ | refine o_gy rfl ?_ | refine o_mov rfl ?_ | refine o_pickt rfl rfl ?_ | refine o_un rfl rfl ?_ | refine o_bin (op := .add) rfl rfl rfl ?_)
            rw [wrap_succ i (by omega)]
            exact u_round (show args.length - (i + 1) < args.length - i by omega) (sub_keep (.cons rfl (.cons rfl (.cons rfl (.cons rfl (.cons rfl .nil)))))) ⟨i + 1, s2, H3, rfl, hlt, by rw [hwl]; simp only [walkL, if_pos hd1, hwk], hI2, hK4, rfl⟩
        · have hd1 : ¬ d ≤ 16 := of_decide_eq_false h2
          repeat (first | refine z_region rfl ?_ | refine o_nil ?_ | refine u_seq ?_ | refine u_blk ?_ | refine z_skip ?_ | refine z_cf rfl ?_ | refine o_gn rfl rfl ?_ | refine o_mov rfl ?_ | refine o_pickf rfl rfl ?_ | refine o_bin (op := .add) rfl rfl rfl ?_)
          rw [wrap_succ i (by omega)]
          exact u_round (show args.length - (i + 1) < args.length - i by omega) (sub_keep (.cons rfl (.cons rfl (.cons rfl (.cons rfl (.cons rfl .nil)))))) ⟨i + 1, s', ⟨_, _, _⟩, rfl, hlt, by rw [hwl]; simp only [walkL, if_neg hd1], hloc.new hI' _ _, hK'.trans (Keep.new M H' _), rfl⟩
      · have hi2 : i = args.length := by
          have := of_decide_eq_false h1
          rw [cXs_length] at this
          omega
        repeat (first | refine z_seq ?_ | refine o_nil ?_ | refine u_seq ?_ | refine z_cf rfl ?_ | refine z_exit ?_ | refine u_exit_seq ?_)
        refine u_out ?_
        repeat (first | refine z_seq ?_ | refine z_region rfl ?_ | refine o_nil ?_ | refine u_seq ?_ | refine z_ret ?_ | refine u_exit ?_ | refine o_mov rfl ?_)
        refine u_end ⟨.inr rfl, _, rfl, hK', ?_⟩
        subst hi2
        simp only [hwl, List.drop_length, walkL]
        exact ⟨trivial, hI'⟩

end
end Go.Proofs.Ytofkihmckookjaa
