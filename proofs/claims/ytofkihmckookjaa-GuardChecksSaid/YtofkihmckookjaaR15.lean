/-
  LISTS OF EXPRESSIONS: the checks of guards.
-/
import Derived.Test.YtofkihmckookjaaR13
namespace Go.Proofs.Ytofkihmckookjaa
open Go Go.Am

def chkL (m : Int) : List Ex → Int
  | [] => 0
  | y :: ys => if checkR y m = 0 then chkL m ys else checkR y m

def guardC (l : List Ex) (n : Int) : Int := if n < 1 ∨ n > 6 then 2 else if l.length > 256 then 5 else chkL (2 * n) l

def body28 : IC := .seq (.region [⟨(some 24), .bin .lss (.t 23) (.t 22), none⟩] none)
  (.seq (.cond (.t 24) (.skip)
  (.exit 1))
  (.seq (.block 2 (.seq (.region [⟨(some 25), .idxs 3 (.t 21) (.t 23), none⟩,
    ⟨(some 26), .load (some 3) (.t 25), none⟩,
    ⟨(some 6), .alloc [.int .i64 0, .int .i64 0, .nils], none⟩,
    ⟨none, .store 3 (.t 6) (.t 26), none⟩] none)
  (.seq (.region [⟨(some 27), .load (some 3) (.t 6), none⟩,
    ⟨(some 28), .mov (.t 1), none⟩,
    ⟨(some 29), .bin .mul (.c (.int .i64 2)) (.t 28), none⟩,
    ⟨(some 30), .call (.c (.fn 59 [] [])) [(.t 27), (.t 29)], none⟩,
    ⟨(some 7), .mov (.t 30), none⟩] none)
  (.seq (.region [⟨(some 31), .mov (.t 7), none⟩,
    ⟨(some 32), .bin .neq (.t 31) (.c (.int .i64 0)), none⟩] none)
  (.cond (.t 32) (.seq (.region [⟨(some 33), .mov (.t 7), none⟩,
    ⟨(some 4), .mov (.t 33), none⟩] none)
  (.ret))
  (.skip))))))
  (.region [⟨(some 34), .bin .add (.t 23) (.c (.int .i64 1)), none⟩,
    ⟨(some 23), .mov (.t 34), none⟩] none)))

-- pneumatic/guard.Check
def ic28 : IC := .seq (.region [⟨(some 2), .box (.t 0), none⟩,
    ⟨(some 4), .mov (.c (.int .i64 0)), none⟩] none)
  (.seq (.block 0 (.seq (.region [⟨(some 9), .mov (.t 1), none⟩,
    ⟨(some 10), .bin .lss (.t 9) (.c (.int .i64 1)), none⟩,
    ⟨(some 11), .mov (.t 10), none⟩,
    ⟨(some 12), .mov (.t 1), some (11, false)⟩,
    ⟨(some 13), .bin .gtr (.t 12) (.c (.int .i64 6)), some (11, false)⟩,
    ⟨(some 14), .pick (.t 11) (.c (.bool true)) (.t 13), none⟩,
    ⟨(some 8), .mov (.t 14), none⟩] none)
  (.cond (.t 8) (.seq (.region [⟨(some 4), .mov (.c (.int .i64 2)), none⟩] none)
  (.ret))
  (.seq (.region [⟨(some 16), .faddr 0 (.t 2), none⟩,
    ⟨(some 17), .load none (.t 16), none⟩,
    ⟨(some 18), .len false (.t 17), none⟩,
    ⟨(some 19), .bin .gtr (.t 18) (.c (.int .i64 256)), none⟩,
    ⟨(some 15), .mov (.t 19), none⟩] none)
  (.cond (.t 15) (.seq (.region [⟨(some 4), .mov (.c (.int .i64 5)), none⟩] none)
  (.ret))
  (.skip))))))
  (.seq (.seq (.region [⟨(some 20), .faddr 0 (.t 2), none⟩,
    ⟨(some 21), .load none (.t 20), none⟩,
    ⟨(some 22), .len false (.t 21), none⟩,
    ⟨(some 23), .mov (.c (.int .i64 0)), none⟩] none)
  (.block 1 (.loop body28)))
  (.seq (.region [⟨(some 4), .mov (.c (.int .i64 0)), none⟩] none)
  (.ret))))
theorem fn28 : env0.fn 28 = some ⟨35, ic28, [.t 4]⟩ := by kernel_rfl


set_option maxHeartbeats 2000000 in
theorem gcheck28 (l : List Ex) (hsl : ∀ y ∈ l, Slim y) (n : Int) : PF Try.prog 28 [.agg [.vs (cXs l)], .int .i64 n] (.int .i64 (guardC l n)) := by
  have hcl : (cXs l).length = l.length := cXs_length l
  refine PF_of_Z env0_ok fn28 [(0, .agg [.vs (cXs l)]), (1, .int .i64 n)] (by show 2 ≤ 35; decide) rfl fun w0 N0 => ?_
  unfold ic28 guardC
  repeat (first | refine z_seq ?_ | refine z_region rfl ?_ | refine o_nil ?_ | refine u_seq ?_ | refine z_block ?_ | refine o_mov rfl ?_ | refine o_box rfl rfl ?_)
  refine o_cmp rfl rfl rfl (fun h1 => ?_) fun h1 => ?_
  · have h1 := of_decide_eq_true h1
    rw [if_pos (.inl h1)]
    repeat (first | refine z_seq ?_ | refine z_region rfl ?_ | refine o_nil ?_ | refine u_seq ?_ | refine z_ct rfl ?_ | refine z_ret ?_ | refine u_ret_seq ?_ | refine u_ret_blk ?_ | refine o_gn rfl rfl ?_ | refine o_mov rfl ?_ | refine o_pickt rfl rfl ?_)
    exact u_end ⟨.inr rfl, _, rfl, rfl⟩
  have h1 := of_decide_eq_false h1
  repeat (first | refine o_gy rfl ?_ | refine o_mov rfl ?_)
  refine o_cmp rfl rfl rfl (fun h2 => ?_) fun h2 => ?_
  · have h2 := of_decide_eq_true h2
    rw [if_pos (.inr h2)]
    repeat (first | refine z_seq ?_ | refine z_region rfl ?_ | refine o_nil ?_ | refine u_seq ?_ | refine z_ct rfl ?_ | refine z_ret ?_ | refine u_ret_seq ?_ | refine u_ret_blk ?_ | refine o_mov rfl ?_ | refine o_pickf rfl rfl ?_)
    exact u_end ⟨.inr rfl, _, rfl, rfl⟩
  have h2 := of_decide_eq_false h2
  rw [if_neg (fun h => h.elim h1 h2)]
  repeat (first | refine z_seq ?_ | refine z_region rfl ?_ | refine o_nil ?_ | refine u_seq ?_ | refine z_cf rfl ?_ | refine o_mov rfl ?_ | refine o_load rfl rfl ?_ | refine o_faddrm rfl ?_ | refine o_pickf rfl rfl ?_ | refine o_len rfl rfl ?_)
  refine o_cmp rfl rfl rfl (fun h2 => ?_) fun h2 => ?_
  · have h2 := of_decide_eq_true h2
    rw [if_pos (by omega)]
    repeat (first | refine z_seq ?_ | refine z_region rfl ?_ | refine o_nil ?_ | refine u_seq ?_ | refine z_ct rfl ?_ | refine z_ret ?_ | refine u_ret_seq ?_ | refine u_ret_blk ?_ | refine o_mov rfl ?_)
    exact u_end ⟨.inr rfl, _, rfl, rfl⟩
  have h2 := of_decide_eq_false h2
  rw [if_neg (by omega)]
  have hlen : l.length ≤ 256 := by omega
  repeat (first | refine z_seq ?_ | refine z_region rfl ?_ | refine o_nil ?_ | refine u_seq ?_ | refine u_blk ?_ | refine z_block ?_ | refine z_skip ?_ | refine z_cf rfl ?_ | refine o_mov rfl ?_ | refine o_load rfl rfl ?_ | refine o_faddrm rfl ?_ | refine o_len rfl rfl ?_)
  refine z_loop (fun mm S => ∃ i, mm = l.length - i ∧ i ≤ l.length ∧ chkL (2 * n) l = chkL (2 * n) (l.drop i) ∧
      S = st 35 [(1, .int .i64 n), (21, .vs (cXs l)), (22, .int .i64 (cXs l).length), (23, .int .i64 (i : Nat))] [] 0 1) l.length
    (sub_ren0 (.cons rfl (.same rfl) (.cons rfl (.same rfl) (.cons rfl (.same rfl) (.cons rfl (.same rfl) .nil))))) ⟨0, rfl, Nat.zero_le _, rfl, rfl⟩ ?_
  rintro mm S ⟨i, rfl, hi, hall, rfl⟩
  unfold body28
  repeat (first | refine z_seq ?_ | refine z_region rfl ?_)
  refine o_cmp rfl rfl rfl (fun h3 => ?_) fun h3 => ?_
  · have hlt : i < l.length := by
      have := of_decide_eq_true h3
      rw [cXs_length] at this
      omega
    have hdr : l.drop i = l[i] :: l.drop (i + 1) := List.drop_eq_getElem_cons hlt
    rw [hdr] at hall
    have hge := cXs_get hlt
    have hmem : l[i] ∈ l := List.getElem_mem hlt
    generalize l[i] = y at hall hge hmem
    have hsy := hsl y hmem
    obtain ⟨yo, yi, ya⟩ := y
    rw [chkL] at hall
    repeat (first | refine z_seq ?_ | refine z_region rfl ?_ | refine o_nil ?_ | refine u_seq ?_ | refine z_block ?_ | refine z_skip ?_ | refine z_ct rfl ?_)
    refine o_idxs rfl rfl (Int.natCast_nonneg i) hge rfl ?_
    repeat (first | refine z_seq ?_ | refine z_region rfl ?_ | refine o_nil ?_ | refine u_seq ?_ | refine o_mov rfl ?_ | refine o_loadn rfl rfl rfl rfl ?_ | refine o_store rfl rfl rfl rfl rfl rfl rfl ?_ | refine o_alloc ?_)
    refine o_bin (op := .mul) rfl rfl rfl ?_
    rw [show IntKind.wrap .i64 (2 * n) = 2 * n from wrap_small _ (by omega) (by omega)]
    have hc := check59 _ hsy (2 * n)
    rw [check_eq] at hc
    refine o_call rfl rfl hc (fun h => Bool.noConfusion (show false = true from h)) ?_
    repeat (first | refine z_seq ?_ | refine z_region rfl ?_ | refine o_nil ?_ | refine u_seq ?_ | refine o_mov rfl ?_)
    refine o_cmp rfl rfl rfl (fun h4 => ?_) fun h4 => ?_
    · have h4 := bne_iff_ne.1 h4
      rw [if_neg h4] at hall
      repeat (first | refine z_seq ?_ | refine z_region rfl ?_ | refine o_nil ?_ | refine u_seq ?_ | refine z_ct rfl ?_ | refine z_ret ?_ | refine u_ret_seq ?_ | refine u_ret_blk ?_ | refine o_mov rfl ?_)
      refine u_out_ret ?_
      repeat (first | refine u_ret_seq ?_ | refine u_ret_blk ?_)
      refine u_end ⟨.inr rfl, _, rfl, ?_⟩
      rw [hall]
      rfl
    · have h4 : checkR (.nd yo yi ya) (2 * n) = 0 := by simpa using h4
      rw [if_pos h4] at hall
      repeat (first | refine z_region rfl ?_ | refine o_nil ?_ | refine u_seq ?_ | refine u_blk ?_ | refine z_skip ?_ | refine z_cf rfl ?_ | refine o_mov rfl ?_ | refine o_bin (op := .add) rfl rfl rfl ?_)
      exact u_round (show l.length - (i + 1) < l.length - i by omega) (sub_ren0 (.cons rfl (.same rfl) (.cons rfl (.same rfl) (.cons rfl (.same rfl) (.cons rfl (ren_eq (congrArg (AV.int .i64) (wrap_succ i (by omega))) rfl) .nil))))) ⟨i + 1, rfl, hlt, hall, rfl⟩
  · have hi2 : i = l.length := by
      have := of_decide_eq_false h3
      rw [cXs_length] at this
      omega
    subst hi2
    rw [List.drop_length] at hall
    repeat (first | refine z_seq ?_ | refine o_nil ?_ | refine u_seq ?_ | refine z_cf rfl ?_ | refine z_exit ?_ | refine u_exit_seq ?_)
    refine u_out ?_
    repeat (first | refine z_seq ?_ | refine z_region rfl ?_ | refine o_nil ?_ | refine u_seq ?_ | refine z_ret ?_ | refine u_exit ?_ | refine o_mov rfl ?_)
    refine u_end ⟨.inr rfl, _, rfl, ?_⟩
    rw [hall]
    rfl

def body29 : IC := .seq (.seq (.region [⟨(some 17), .mov (.t 5), none⟩,
    ⟨(some 18), .faddr 0 (.t 2), none⟩,
    ⟨(some 19), .load none (.t 18), none⟩,
    ⟨(some 20), .len false (.t 19), none⟩,
    ⟨(some 21), .bin .lss (.t 17) (.t 20), none⟩] none)
  (.cond (.t 21) (.skip)
  (.exit 0)))
  (.seq (.block 1 (.seq (.region [⟨(some 24), .faddr 0 (.t 2), none⟩,
    ⟨(some 25), .load none (.t 24), none⟩,
    ⟨(some 26), .mov (.t 5), none⟩,
    ⟨(some 27), .idxs 3 (.t 25) (.t 26), none⟩,
    ⟨(some 28), .load (some 3) (.t 27), none⟩,
    ⟨(some 29), .mov (.t 1), none⟩,
    ⟨(some 30), .bin .mul (.c (.int .i64 2)) (.t 29), none⟩,
    ⟨(some 31), .call (.c (.fn 60 [] [])) [(.t 28), (.t 30)], none⟩,
    ⟨(some 6), .mov (.t 31), none⟩] none)
  (.seq (.region [⟨(some 32), .mov (.t 6), none⟩,
    ⟨(some 33), .bin .neq (.t 32) (.c (.int .i64 0)), none⟩] none)
  (.cond (.t 33) (.seq (.region [⟨(some 34), .mov (.t 6), none⟩,
    ⟨(some 4), .mov (.t 34), none⟩] none)
  (.ret))
  (.skip)))))
  (.region [⟨(some 22), .mov (.t 5), none⟩,
    ⟨(some 23), .bin .add (.t 22) (.c (.int .i64 1)), none⟩,
    ⟨(some 5), .mov (.t 23), none⟩] none))

-- pneumatic/pneumaticref49.Check
def ic29 : IC := .seq (.region [⟨(some 2), .box (.t 0), none⟩,
    ⟨(some 4), .mov (.c (.int .i64 0)), none⟩] none)
  (.seq (.seq (.region [⟨(some 7), .mov (.t 1), none⟩,
    ⟨(some 8), .bin .lss (.t 7) (.c (.int .i64 1)), none⟩,
    ⟨(some 9), .mov (.t 8), none⟩,
    ⟨(some 10), .mov (.t 1), some (9, false)⟩,
    ⟨(some 11), .bin .gtr (.t 10) (.c (.int .i64 6)), some (9, false)⟩,
    ⟨(some 12), .pick (.t 9) (.c (.bool true)) (.t 11), none⟩] none)
  (.cond (.t 12) (.seq (.region [⟨(some 4), .mov (.c (.int .i64 2)), none⟩] none)
  (.ret))
  (.skip)))
  (.seq (.seq (.region [⟨(some 13), .faddr 0 (.t 2), none⟩,
    ⟨(some 14), .load none (.t 13), none⟩,
    ⟨(some 15), .len false (.t 14), none⟩,
    ⟨(some 16), .bin .gtr (.t 15) (.c (.int .i64 256)), none⟩] none)
  (.cond (.t 16) (.seq (.region [⟨(some 4), .mov (.c (.int .i64 5)), none⟩] none)
  (.ret))
  (.skip)))
  (.seq (.seq (.region [⟨(some 5), .mov (.c (.int .i64 0)), none⟩] none)
  (.block 0 (.loop body29)))
  (.seq (.region [⟨(some 4), .mov (.c (.int .i64 0)), none⟩] none)
  (.ret)))))
theorem fn29 : env0.fn 29 = some ⟨35, ic29, [.t 4]⟩ := by kernel_rfl


set_option maxHeartbeats 2000000 in
theorem gcheck29 (l : List Ex) (hsl : ∀ y ∈ l, Slim y) (n : Int) : PF Try.prog 29 [.agg [.vs (cXs l)], .int .i64 n] (.int .i64 (guardC l n)) := by
  have hcl : (cXs l).length = l.length := cXs_length l
  refine PF_of_Z env0_ok fn29 [(0, .agg [.vs (cXs l)]), (1, .int .i64 n)] (by show 2 ≤ 35; decide) rfl fun w0 N0 => ?_
  unfold ic29 guardC
  repeat (first | refine z_seq ?_ | refine z_region rfl ?_ | refine o_nil ?_ | refine u_seq ?_ | refine o_mov rfl ?_ | refine o_box rfl rfl ?_)
  refine o_cmp rfl rfl rfl (fun h1 => ?_) fun h1 => ?_
  · have h1 := of_decide_eq_true h1
    rw [if_pos (.inl h1)]
    repeat (first | refine z_seq ?_ | refine z_region rfl ?_ | refine o_nil ?_ | refine u_seq ?_ | refine z_ct rfl ?_ | refine z_ret ?_ | refine u_ret_seq ?_ | refine o_gn rfl rfl ?_ | refine o_mov rfl ?_ | refine o_pickt rfl rfl ?_)
    exact u_end ⟨.inr rfl, _, rfl, rfl⟩
  have h1 := of_decide_eq_false h1
  repeat (first | refine o_gy rfl ?_ | refine o_mov rfl ?_)
  refine o_cmp rfl rfl rfl (fun h2 => ?_) fun h2 => ?_
  · have h2 := of_decide_eq_true h2
    rw [if_pos (.inr h2)]
    repeat (first | refine z_seq ?_ | refine z_region rfl ?_ | refine o_nil ?_ | refine u_seq ?_ | refine z_ct rfl ?_ | refine z_ret ?_ | refine u_ret_seq ?_ | refine o_mov rfl ?_ | refine o_pickf rfl rfl ?_)
    exact u_end ⟨.inr rfl, _, rfl, rfl⟩
  have h2 := of_decide_eq_false h2
  rw [if_neg (fun h => h.elim h1 h2)]
  repeat (first | refine z_seq ?_ | refine z_region rfl ?_ | refine o_nil ?_ | refine u_seq ?_ | refine z_skip ?_ | refine z_cf rfl ?_ | refine o_load rfl rfl ?_ | refine o_faddrm rfl ?_ | refine o_pickf rfl rfl ?_ | refine o_len rfl rfl ?_)
  refine o_cmp rfl rfl rfl (fun h2 => ?_) fun h2 => ?_
  · have h2 := of_decide_eq_true h2
    rw [if_pos (by omega)]
    repeat (first | refine z_seq ?_ | refine z_region rfl ?_ | refine o_nil ?_ | refine u_seq ?_ | refine z_ct rfl ?_ | refine z_ret ?_ | refine u_ret_seq ?_ | refine o_mov rfl ?_)
    exact u_end ⟨.inr rfl, _, rfl, rfl⟩
  have h2 := of_decide_eq_false h2
  rw [if_neg (by omega)]
  have hlen : l.length ≤ 256 := by omega
  repeat (first | refine z_seq ?_ | refine z_region rfl ?_ | refine o_nil ?_ | refine u_seq ?_ | refine z_block ?_ | refine z_skip ?_ | refine z_cf rfl ?_ | refine o_mov rfl ?_)
  refine z_loop (fun mm S => ∃ i, mm = l.length - i ∧ i ≤ l.length ∧ chkL (2 * n) l = chkL (2 * n) (l.drop i) ∧
      S = st 35 [(1, .int .i64 n), (2, .mptr 0 0 0), (5, .int .i64 (i : Nat))] [(0, 0, .cells [.vs (cXs l)])] 1 1) l.length
    (sub_keep (.cons rfl (.cons rfl (.cons rfl .nil)))) ⟨0, rfl, Nat.zero_le _, rfl, rfl⟩ ?_
  rintro mm S ⟨i, rfl, hi, hall, rfl⟩
  unfold body29
  repeat (first | refine z_seq ?_ | refine z_region rfl ?_ | refine o_mov rfl ?_ | refine o_load rfl rfl ?_ | refine o_faddrm rfl ?_ | refine o_len rfl rfl ?_)
  refine o_cmp rfl rfl rfl (fun h3 => ?_) fun h3 => ?_
  · have hlt : i < l.length := by
      have := of_decide_eq_true h3
      rw [cXs_length] at this
      omega
    have hdr : l.drop i = l[i] :: l.drop (i + 1) := List.drop_eq_getElem_cons hlt
    rw [hdr] at hall
    have hge := cXs_get hlt
    have hmem : l[i] ∈ l := List.getElem_mem hlt
    generalize l[i] = y at hall hge hmem
    have hsy := hsl y hmem
    obtain ⟨yo, yi, ya⟩ := y
    rw [chkL] at hall
    repeat (first | refine z_seq ?_ | refine z_region rfl ?_ | refine o_nil ?_ | refine u_seq ?_ | refine z_block ?_ | refine z_skip ?_ | refine z_ct rfl ?_ | refine o_mov rfl ?_ | refine o_load rfl rfl ?_ | refine o_faddrm rfl ?_)
    refine o_idxs rfl rfl (Int.natCast_nonneg i) hge rfl ?_
    repeat (first | refine o_mov rfl ?_ | refine o_loadn rfl rfl rfl rfl ?_)
    refine o_bin (op := .mul) rfl rfl rfl ?_
    rw [show IntKind.wrap .i64 (2 * n) = 2 * n from wrap_small _ (by omega) (by omega)]
    refine o_call rfl rfl (check60 _ hsy (2 * n)) (fun h => Bool.noConfusion (show false = true from h)) ?_
    repeat (first | refine z_seq ?_ | refine z_region rfl ?_ | refine o_nil ?_ | refine u_seq ?_ | refine o_mov rfl ?_)
    refine o_cmp rfl rfl rfl (fun h4 => ?_) fun h4 => ?_
    · have h4 := bne_iff_ne.1 h4
      rw [if_neg h4] at hall
      repeat (first | refine z_seq ?_ | refine z_region rfl ?_ | refine o_nil ?_ | refine u_seq ?_ | refine z_ct rfl ?_ | refine z_ret ?_ | refine u_ret_seq ?_ | refine u_ret_blk ?_ | refine o_mov rfl ?_)
      refine u_out_ret ?_
      repeat (first | refine u_ret_seq ?_ | refine u_ret_blk ?_)
      refine u_end ⟨.inr rfl, _, rfl, ?_⟩
      rw [hall]
      rfl
    · have h4 : checkR (.nd yo yi ya) (2 * n) = 0 := by simpa using h4
      rw [if_pos h4] at hall
      repeat (first | refine z_region rfl ?_ | refine o_nil ?_ | refine u_seq ?_ | refine u_blk ?_ | refine z_skip ?_ | refine z_cf rfl ?_ | refine o_mov rfl ?_ | refine o_bin (op := .add) rfl rfl rfl ?_)
      rw [wrap_succ i (by omega)]
      exact u_round (show l.length - (i + 1) < l.length - i by omega) (sub_keep (.cons rfl (.cons rfl (.cons rfl .nil)))) ⟨i + 1, rfl, hlt, hall, rfl⟩
  · have hi2 : i = l.length := by
      have := of_decide_eq_false h3
      rw [cXs_length] at this
      omega
    subst hi2
    rw [List.drop_length] at hall
    repeat (first | refine o_nil ?_ | refine u_seq ?_ | refine z_cf rfl ?_ | refine z_exit ?_ | refine u_exit_seq ?_)
    refine u_out ?_
    repeat (first | refine z_seq ?_ | refine z_region rfl ?_ | refine o_nil ?_ | refine u_seq ?_ | refine z_ret ?_ | refine u_exit ?_ | refine o_mov rfl ?_)
    refine u_end ⟨.inr rfl, _, rfl, ?_⟩
    rw [hall]
    rfl


end Go.Proofs.Ytofkihmckookjaa
