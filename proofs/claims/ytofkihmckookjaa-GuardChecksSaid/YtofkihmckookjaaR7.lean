/-
  HOW DEEP AN EXPRESSION IS: the reference's Deep for every expression.
-/
import Derived.Test.YtofkihmckookjaaR6
namespace Go.Proofs.Ytofkihmckookjaa
open Go Go.Am

def deepB : Nat → Ex → Bool
  | 0, _ => false
  | m + 1, .nd _ _ args => if m = 0 then args.isEmpty else args.all (deepB m)

def body73 : IC := .seq (.seq (.region [⟨(some 14), .mov (.t 5), none⟩,
    ⟨(some 15), .faddr 2 (.t 2), none⟩,
    ⟨(some 16), .load none (.t 15), none⟩,
    ⟨(some 17), .len false (.t 16), none⟩,
    ⟨(some 18), .bin .lss (.t 14) (.t 17), none⟩] none)
  (.cond (.t 18) (.skip)
  (.exit 0)))
  (.seq (.block 1 (.seq (.region [⟨(some 21), .faddr 2 (.t 2), none⟩,
    ⟨(some 22), .load none (.t 21), none⟩,
    ⟨(some 23), .mov (.t 5), none⟩,
    ⟨(some 24), .idxs 3 (.t 22) (.t 23), none⟩,
    ⟨(some 25), .load (some 3) (.t 24), none⟩,
    ⟨(some 26), .mov (.t 1), none⟩,
    ⟨(some 27), .bin .sub (.t 26) (.c (.int .i64 1)), none⟩,
    ⟨(some 28), .call (.c (.fn 73 [] [])) [(.t 25), (.t 27)], none⟩,
    ⟨(some 29), .un .not (.t 28), none⟩] none)
  (.cond (.t 29) (.seq (.region [⟨(some 4), .mov (.c (.bool false)), none⟩] none)
  (.ret))
  (.skip))))
  (.region [⟨(some 19), .mov (.t 5), none⟩,
    ⟨(some 20), .bin .add (.t 19) (.c (.int .i64 1)), none⟩,
    ⟨(some 5), .mov (.t 20), none⟩] none))

-- pneumatic/pneumaticref05.Deep
def ic73 : IC := .seq (.region [⟨(some 2), .box (.t 0), none⟩,
    ⟨(some 4), .mov (.c (.bool false)), none⟩] none)
  (.seq (.seq (.region [⟨(some 6), .mov (.t 1), none⟩,
    ⟨(some 7), .bin .lss (.t 6) (.c (.int .i64 1)), none⟩] none)
  (.cond (.t 7) (.seq (.region [⟨(some 4), .mov (.c (.bool false)), none⟩] none)
  (.ret))
  (.skip)))
  (.seq (.seq (.region [⟨(some 8), .mov (.t 1), none⟩,
    ⟨(some 9), .bin .eql (.t 8) (.c (.int .i64 1)), none⟩] none)
  (.cond (.t 9) (.seq (.region [⟨(some 10), .faddr 2 (.t 2), none⟩,
    ⟨(some 11), .load none (.t 10), none⟩,
    ⟨(some 12), .len false (.t 11), none⟩,
    ⟨(some 13), .bin .eql (.t 12) (.c (.int .i64 0)), none⟩,
    ⟨(some 4), .mov (.t 13), none⟩] none)
  (.ret))
  (.skip)))
  (.seq (.seq (.region [⟨(some 5), .mov (.c (.int .i64 0)), none⟩] none)
  (.block 0 (.loop body73)))
  (.seq (.region [⟨(some 4), .mov (.c (.bool true)), none⟩] none)
  (.ret)))))
theorem fn73 : env0.fn 73 = some ⟨30, ic73, [.t 4]⟩ := by kernel_rfl


theorem slim_args {op ix : Int} {args : List Ex} (h : Slim (.nd op ix args)) : args.length < 9223372036854775808 ∧ ∀ y ∈ args, Slim y := by
  cases h with | nd h k => exact ⟨h, k⟩

set_option maxHeartbeats 2000000 in
theorem deep73 : ∀ (m : Nat) (x : Ex) (z : Int), z = m → m ≤ 300 → Slim x → PF Try.prog 73 [.agg (cX x), .int .i64 z] (.bool (deepB m x)) := by
  intro m
  induction m with
  | zero =>
    intro x z hz hm hs
    obtain ⟨op, ix, args⟩ := x
    refine PF_of_Z env0_ok fn73 [(0, .agg (cX (.nd op ix args))), (1, .int .i64 z)] (by show 2 ≤ 30; decide) rfl fun w0 N0 => ?_
    unfold ic73
    repeat (first | refine z_seq ?_ | refine z_region rfl ?_ | refine o_nil ?_ | refine u_seq ?_ | refine o_mov rfl ?_ | refine o_box rfl rfl ?_)
    refine o_cmp rfl rfl rfl (fun h1 => ?_) fun h1 => ?_
    · repeat (first | refine z_seq ?_ | refine z_region rfl ?_ | refine o_nil ?_ | refine u_seq ?_ | refine z_ct rfl ?_ | refine z_ret ?_ | refine u_ret_seq ?_ | refine o_mov rfl ?_)
      exact u_end ⟨.inr rfl, _, rfl, rfl⟩
    · have h1 := of_decide_eq_false h1
      exact absurd hz (by omega)
  | succ m ih =>
    intro x z hz hm hs
    obtain ⟨op, ix, args⟩ := x
    obtain ⟨hlen, hsl⟩ := slim_args hs
    refine PF_of_Z env0_ok fn73 [(0, .agg (cX (.nd op ix args))), (1, .int .i64 z)] (by show 2 ≤ 30; decide) rfl fun w0 N0 => ?_
    unfold ic73
    repeat (first | refine z_seq ?_ | refine z_region rfl ?_ | refine o_nil ?_ | refine u_seq ?_ | refine o_mov rfl ?_ | refine o_box rfl rfl ?_)
    refine o_cmp rfl rfl rfl (fun h1 => ?_) fun h1 => ?_
    · have h1 := of_decide_eq_true h1
      exact absurd hz (by omega)
    repeat (first | refine z_seq ?_ | refine z_region rfl ?_ | refine o_nil ?_ | refine u_seq ?_ | refine z_skip ?_ | refine z_cf rfl ?_ | refine o_mov rfl ?_)
    refine o_cmp rfl rfl rfl (fun h2 => ?_) fun h2 => ?_
    · have hm0 : m = 0 := by have := beq_iff_eq.1 h2; omega
      subst hm0
      repeat (first | refine z_seq ?_ | refine z_region rfl ?_ | refine o_nil ?_ | refine u_seq ?_ | refine z_ct rfl ?_ | refine o_load rfl rfl ?_ | refine o_faddrm rfl ?_ | refine o_len rfl rfl ?_)
      have hd : deepB (0 + 1) (.nd op ix args) = args.isEmpty := rfl
      rw [hd]
      refine o_cmp rfl rfl rfl (fun h3 => ?_) fun h3 => ?_
      · repeat (first | refine o_nil ?_ | refine u_seq ?_ | refine z_ret ?_ | refine u_ret_seq ?_ | refine o_mov rfl ?_)
        refine u_end ⟨.inr rfl, _, rfl, ?_⟩
        have h3 : ((cXs args).length : Int) = 0 := beq_iff_eq.1 h3
        rw [cXs_length] at h3
        have : args = [] := List.length_eq_zero_iff.1 (by omega)
        subst this
        rfl
      · repeat (first | refine o_nil ?_ | refine u_seq ?_ | refine z_ret ?_ | refine u_ret_seq ?_ | refine o_mov rfl ?_)
        refine u_end ⟨.inr rfl, _, rfl, ?_⟩
        have h3 : ¬ ((cXs args).length : Int) = 0 := by simpa using h3
        rw [cXs_length] at h3
        cases args with
        | nil => exact absurd rfl h3
        | cons a l => rfl
    have hm0 : m ≠ 0 := by
      have : ¬ z = 1 := by simpa using h2
      omega
    have hd : deepB (m + 1) (.nd op ix args) = args.all (deepB m) := by rw [deepB, if_neg hm0]
    rw [hd]
    repeat (first | refine z_seq ?_ | refine z_region rfl ?_ | refine o_nil ?_ | refine u_seq ?_ | refine z_block ?_ | refine z_skip ?_ | refine z_cf rfl ?_ | refine o_mov rfl ?_)
    refine z_loop (fun mm S => ∃ i, mm = args.length - i ∧ i ≤ args.length ∧ args.all (deepB m) = (args.drop i).all (deepB m) ∧
        S = st 30 [(1, .int .i64 z), (2, .mptr 0 0 0), (5, .int .i64 (i : Nat))] [(0, 0, .cells (cX (.nd op ix args)))] 1 1) args.length
      (sub_keep (.cons rfl (.cons rfl (.cons rfl .nil)))) ⟨0, rfl, Nat.zero_le _, rfl, rfl⟩ ?_
    rintro mm S ⟨i, rfl, hi, hall, rfl⟩
    unfold body73
    repeat (first | refine z_seq ?_ | refine z_region rfl ?_ | refine o_mov rfl ?_ | refine o_load rfl rfl ?_ | refine o_faddrm rfl ?_ | refine o_len rfl rfl ?_)
    refine o_cmp rfl rfl rfl (fun h3 => ?_) fun h3 => ?_
    · have hlt : i < args.length := by
        have := of_decide_eq_true h3
        rw [cXs_length] at this
        omega
      have hdr : args.drop i = args[i] :: args.drop (i + 1) := List.drop_eq_getElem_cons hlt
      rw [hdr] at hall
      have hge := cXs_get hlt
      have hmem : args[i] ∈ args := List.getElem_mem hlt
      generalize args[i] = y at hall hge hmem
      obtain ⟨yo, yi, ya⟩ := y
      repeat (first | refine z_seq ?_ | refine z_region rfl ?_ | refine o_nil ?_ | refine u_seq ?_ | refine z_block ?_ | refine z_skip ?_ | refine z_ct rfl ?_ | refine o_mov rfl ?_ | refine o_load rfl rfl ?_ | refine o_faddrm rfl ?_)
      refine o_idxs rfl rfl (Int.natCast_nonneg i) hge rfl ?_
      repeat (first | refine o_mov rfl ?_ | refine o_loadn rfl rfl rfl rfl ?_ | refine o_bin (op := .sub) rfl rfl rfl ?_)
      rw [show IntKind.wrap .i64 (z - 1) = z - 1 from wrap_small _ (by omega) (by omega)]
      have hc := ih (.nd yo yi ya) (z - 1) (by omega) (by omega) (hsl _ hmem)
      rw [List.all_cons] at hall
      cases hb : deepB m (.nd yo yi ya) with
      | true =>
        rw [hb] at hc hall
        rw [Bool.true_and] at hall
        refine o_call rfl rfl hc (fun h => Bool.noConfusion (show false = true from h)) ?_
        repeat (first | refine z_region rfl ?_ | refine o_nil ?_ | refine u_seq ?_ | refine u_blk ?_ | refine z_skip ?_ | refine z_cf rfl ?_ | refine o_mov rfl ?_ | refine o_un rfl rfl ?_ | refine o_bin (op := .add) rfl rfl rfl ?_)
        rw [wrap_succ i (by omega)]
        exact u_round (show args.length - (i + 1) < args.length - i by omega) (sub_keep (.cons rfl (.cons rfl (.cons rfl .nil)))) ⟨i + 1, rfl, hlt, hall, rfl⟩
      | false =>
        rw [hb] at hc hall
        rw [Bool.false_and] at hall
        refine o_call rfl rfl hc (fun h => Bool.noConfusion (show false = true from h)) ?_
        repeat (first | refine z_seq ?_ | refine z_region rfl ?_ | refine o_nil ?_ | refine u_seq ?_ | refine z_ct rfl ?_ | refine z_ret ?_ | refine u_ret_seq ?_ | refine u_ret_blk ?_ | refine o_mov rfl ?_ | refine o_un rfl rfl ?_)
        refine u_out_ret ?_
        repeat (first | refine u_ret_seq ?_ | refine u_ret_blk ?_)
        refine u_end ⟨.inr rfl, _, rfl, ?_⟩
        rw [hall]
        rfl
    · have hi2 : i = args.length := by
        have := of_decide_eq_false h3
        rw [cXs_length] at this
        omega
      repeat (first | refine o_nil ?_ | refine u_seq ?_ | refine z_cf rfl ?_ | refine z_exit ?_ | refine u_exit_seq ?_)
      refine u_out ?_
      repeat (first | refine z_seq ?_ | refine z_region rfl ?_ | refine o_nil ?_ | refine u_seq ?_ | refine z_ret ?_ | refine u_exit ?_ | refine o_mov rfl ?_)
      refine u_end ⟨.inr rfl, _, rfl, ?_⟩
      subst hi2
      rw [hall, List.drop_length]
      rfl

end Go.Proofs.Ytofkihmckookjaa
