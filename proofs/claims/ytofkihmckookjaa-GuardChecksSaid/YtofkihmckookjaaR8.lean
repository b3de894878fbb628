/-
  HOW MANY NODES AN EXPRESSION HAS: the reference's count for every expression.
-/
import Derived.Test.YtofkihmckookjaaR7
namespace Go.Proofs.Ytofkihmckookjaa
open Go Go.Am

mutual
def cnt (most : Int) : Ex → Int
  | .nd _ _ args => cntL most 1 args
def cntL (most n : Int) : List Ex → Int
  | [] => n
  | y :: ys => if n ≤ most then cntL most (n + cnt (most - n) y) ys else n
end

mutual
theorem cnt_le (most : Int) (h : 0 ≤ most) : ∀ x : Ex, 1 ≤ cnt most x ∧ cnt most x ≤ most + 1
  | .nd op ix args => by
    rw [cnt]
    exact cntL_le most h 1 (by omega) (by omega) args
theorem cntL_le (most : Int) (h : 0 ≤ most) (n : Int) (h1 : 1 ≤ n) (h2 : n ≤ most + 1) : ∀ l : List Ex, 1 ≤ cntL most n l ∧ cntL most n l ≤ most + 1
  | [] => by rw [cntL]; exact ⟨h1, h2⟩
  | y :: ys => by
    rw [cntL]
    split
    · have := cnt_le (most - n) (by omega) y
      exact cntL_le most h _ (by omega) (by omega) ys
    · exact ⟨h1, h2⟩
end

def body72 : IC := .seq (.seq (.region [⟨(some 7), .mov (.t 6), none⟩,
    ⟨(some 8), .faddr 2 (.t 2), none⟩,
    ⟨(some 9), .load none (.t 8), none⟩,
    ⟨(some 10), .len false (.t 9), none⟩,
    ⟨(some 11), .bin .lss (.t 7) (.t 10), none⟩,
    ⟨(some 12), .mov (.t 11), none⟩,
    ⟨(some 13), .mov (.t 5), some (12, true)⟩,
    ⟨(some 14), .mov (.t 1), some (12, true)⟩,
    ⟨(some 15), .bin .leq (.t 13) (.t 14), some (12, true)⟩,
    ⟨(some 16), .pick (.t 12) (.t 15) (.c (.bool false)), none⟩] none)
  (.cond (.t 16) (.skip)
  (.exit 0)))
  (.seq (.block 1 (.region [⟨(some 19), .mov (.t 5), none⟩,
    ⟨(some 20), .faddr 2 (.t 2), none⟩,
    ⟨(some 21), .load none (.t 20), none⟩,
    ⟨(some 22), .mov (.t 6), none⟩,
    ⟨(some 23), .idxs 3 (.t 21) (.t 22), none⟩,
    ⟨(some 24), .load (some 3) (.t 23), none⟩,
    ⟨(some 25), .mov (.t 1), none⟩,
    ⟨(some 26), .mov (.t 5), none⟩,
    ⟨(some 27), .bin .sub (.t 25) (.t 26), none⟩,
    ⟨(some 28), .call (.c (.fn 72 [] [])) [(.t 24), (.t 27)], none⟩,
    ⟨(some 29), .bin .add (.t 19) (.t 28), none⟩,
    ⟨(some 5), .mov (.t 29), none⟩] none))
  (.region [⟨(some 17), .mov (.t 6), none⟩,
    ⟨(some 18), .bin .add (.t 17) (.c (.int .i64 1)), none⟩,
    ⟨(some 6), .mov (.t 18), none⟩] none))

-- pneumatic/pneumaticref05.count
def ic72 : IC := .seq (.region [⟨(some 2), .box (.t 0), none⟩,
    ⟨(some 4), .mov (.c (.int .i64 0)), none⟩] none)
  (.seq (.region [⟨(some 5), .mov (.c (.int .i64 1)), none⟩] none)
  (.seq (.seq (.region [⟨(some 6), .mov (.c (.int .i64 0)), none⟩] none)
  (.block 0 (.loop body72)))
  (.seq (.region [⟨(some 30), .mov (.t 5), none⟩,
    ⟨(some 4), .mov (.t 30), none⟩] none)
  (.ret))))
theorem fn72 : env0.fn 72 = some ⟨31, ic72, [.t 4]⟩ := by kernel_rfl


set_option maxHeartbeats 2000000 in
theorem count72 : ∀ (q : Nat) (x : Ex) (z : Int), SizeOf.sizeOf x ≤ q → Slim x → 0 ≤ z → z ≤ 256 → PF Try.prog 72 [.agg (cX x), .int .i64 z] (.int .i64 (cnt z x)) := by
  intro q
  induction q with
  | zero => intro x z hq; cases x; simp at hq
  | succ q ih =>
    intro x z hq hs h0 hz
    obtain ⟨op, ix, args⟩ := x
    obtain ⟨hlen, hsl⟩ := slim_args hs
    refine PF_of_Z env0_ok fn72 [(0, .agg (cX (.nd op ix args))), (1, .int .i64 z)] (by show 2 ≤ 31; decide) rfl fun w0 N0 => ?_
    unfold ic72
    have hd : cnt z (.nd op ix args) = cntL z 1 args := by rw [cnt]
    rw [hd]
    repeat (first | refine z_seq ?_ | refine z_region rfl ?_ | refine o_nil ?_ | refine u_seq ?_ | refine z_block ?_ | refine o_mov rfl ?_ | refine o_box rfl rfl ?_)
    refine z_loop (fun mm S => ∃ i nn, mm = args.length - i ∧ i ≤ args.length ∧ 1 ≤ nn ∧ nn ≤ z + 1 ∧ cntL z 1 args = cntL z nn (args.drop i) ∧
        S = st 31 [(1, .int .i64 z), (2, .mptr 0 0 0), (5, .int .i64 nn), (6, .int .i64 (i : Nat))] [(0, 0, .cells (cX (.nd op ix args)))] 1 1) args.length
      (sub_keep (.cons rfl (.cons rfl (.cons rfl (.cons rfl .nil))))) ⟨0, 1, rfl, Nat.zero_le _, by omega, by omega, rfl, rfl⟩ ?_
    rintro mm S ⟨i, nn, rfl, hi, hn1, hn2, hall, rfl⟩
    unfold body72
    repeat (first | refine z_seq ?_ | refine z_region rfl ?_ | refine o_mov rfl ?_ | refine o_load rfl rfl ?_ | refine o_faddrm rfl ?_ | refine o_len rfl rfl ?_)
    refine o_cmp rfl rfl rfl (fun h3 => ?_) fun h3 => ?_
    · have hlt : i < args.length := by
        have := of_decide_eq_true h3
        rw [cXs_length] at this
        omega
      have hdr : args.drop i = args[i] :: args.drop (i + 1) := List.drop_eq_getElem_cons hlt
      rw [hdr] at hall
      have hge := cXs_get hlt
      have hmem : args[i] ∈ args := List.getElem_mem hlt
      generalize args[i] = y at hall hge hmem
      obtain ⟨yo, yi, ya⟩ := y
      repeat (first | refine o_gy rfl ?_ | refine o_mov rfl ?_)
      refine o_cmp rfl rfl rfl (fun h4 => ?_) fun h4 => ?_
      · have h4 := of_decide_eq_true h4
        rw [cntL, if_pos h4] at hall
        repeat (first | refine z_seq ?_ | refine z_region rfl ?_ | refine o_nil ?_ | refine u_seq ?_ | refine z_block ?_ | refine z_skip ?_ | refine z_ct rfl ?_ | refine o_mov rfl ?_ | refine o_load rfl rfl ?_ | refine o_faddrm rfl ?_ | refine o_pickt rfl rfl ?_)
        refine o_idxs rfl rfl (Int.natCast_nonneg i) hge rfl ?_
        repeat (first | refine o_mov rfl ?_ | refine o_loadn rfl rfl rfl rfl ?_ | refine o_bin (op := .sub) rfl rfl rfl ?_)
        rw [show IntKind.wrap .i64 (z - nn) = z - nn from wrap_small _ (by omega) (by omega)]
        refine o_call rfl rfl (ih (.nd yo yi ya) (z - nn) (by have := sz_mem (op := op) (ix := ix) hmem; omega) (hsl _ hmem) (by omega) (by omega)) (fun h => Bool.noConfusion (show false = true from h)) ?_
        have hb := cnt_le (z - nn) (by omega) (.nd yo yi ya)
        repeat (first | refine z_region rfl ?_ | refine o_nil ?_ | refine u_seq ?_ | refine u_blk ?_ | refine o_mov rfl ?_ | refine o_bin (op := .add) rfl rfl rfl ?_)
        rw [wrap_succ i (by omega), show IntKind.wrap .i64 (nn + cnt (z - nn) (.nd yo yi ya)) = nn + cnt (z - nn) (.nd yo yi ya) from wrap_small _ (by omega) (by omega)]
        exact u_round (show args.length - (i + 1) < args.length - i by omega) (sub_keep (.cons rfl (.cons rfl (.cons rfl (.cons rfl .nil))))) ⟨i + 1, _, rfl, hlt, by omega, by omega, hall, rfl⟩
      · have h4 := of_decide_eq_false h4
        rw [cntL, if_neg h4] at hall
        repeat (first | refine o_nil ?_ | refine u_seq ?_ | refine z_cf rfl ?_ | refine z_exit ?_ | refine u_exit_seq ?_ | refine o_pickt rfl rfl ?_)
        refine u_out ?_
        repeat (first | refine z_seq ?_ | refine z_region rfl ?_ | refine o_nil ?_ | refine u_seq ?_ | refine z_ret ?_ | refine u_exit ?_ | refine o_mov rfl ?_)
        refine u_end ⟨.inr rfl, _, rfl, ?_⟩
        rw [hall]
        rfl
    · have hi2 : i = args.length := by
        have := of_decide_eq_false h3
        rw [cXs_length] at this
        omega
      repeat (first | refine o_nil ?_ | refine u_seq ?_ | refine z_cf rfl ?_ | refine z_exit ?_ | refine u_exit_seq ?_ | refine o_gn rfl rfl ?_ | refine o_mov rfl ?_ | refine o_pickf rfl rfl ?_)
      refine u_out ?_
      repeat (first | refine z_seq ?_ | refine z_region rfl ?_ | refine o_nil ?_ | refine u_seq ?_ | refine z_ret ?_ | refine u_exit ?_ | refine o_mov rfl ?_)
      refine u_end ⟨.inr rfl, _, rfl, ?_⟩
      subst hi2
      rw [hall, List.drop_length, cntL]
      rfl

end Go.Proofs.Ytofkihmckookjaa
