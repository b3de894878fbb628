/-
  THE TWO-HAND SIGNAL: the reference computes the same.
-/
import Derived.Test.YtofkihmckookjaaH5
namespace Go.Proofs.Ytofkihmckookjaa
open Go Go.Am

def tm18 (l : List Ev) (w : Int) (i : Nat) (out : AV) (rdy on : Bool) : List (Nat × AV) := [(0, .vs (l.map rowE)), (1, .int .i64 w), (7, out), (8, .mptr 0 0 0), (9, .mptr 1 0 0), (10, .bool rdy), (11, .bool on), (12, .int .i64 (i : Nat))]

def body18 : IC := .seq (.seq (.region [⟨(some 20), .mov (.t 12), none⟩,
    ⟨(some 21), .mov (.t 0), none⟩,
    ⟨(some 22), .len false (.t 21), none⟩,
    ⟨(some 23), .bin .lss (.t 20) (.t 22), none⟩] none)
  (.cond (.t 23) (.skip)
  (.exit 0)))
  (.seq (.block 1 (.seq (.region [⟨(some 13), .mov (.c (.int .i64 0)), none⟩] none)
  (.seq (.seq (.region [⟨(some 26), .mov (.t 0), none⟩,
    ⟨(some 27), .mov (.t 12), none⟩,
    ⟨(some 28), .idxs 3 (.t 26) (.t 27), none⟩,
    ⟨(some 29), .faddr 1 (.t 28), none⟩,
    ⟨(some 30), .load none (.t 29), none⟩] none)
  (.cond (.t 30) (.region [⟨(some 13), .mov (.c (.int .i64 1)), none⟩] none)
  (.skip)))
  (.seq (.seq (.region [⟨(some 31), .mov (.t 13), none⟩,
    ⟨(some 32), .idxarr 2 1 (.t 8) (.t 31), none⟩,
    ⟨(some 33), .load none (.t 32), none⟩,
    ⟨(some 34), .mov (.t 0), none⟩,
    ⟨(some 35), .mov (.t 12), none⟩,
    ⟨(some 36), .idxs 3 (.t 34) (.t 35), none⟩,
    ⟨(some 37), .faddr 2 (.t 36), none⟩,
    ⟨(some 38), .load none (.t 37), none⟩,
    ⟨(some 39), .eqb false (.t 33) (.t 38), none⟩] (some [[], [0], [1], [], [], [3, 4], [5], [6], [2, 7]]))
  (.cond (.t 39) (.exit 1)
  (.skip)))
  (.seq (.region [⟨(some 40), .mov (.t 13), none⟩,
    ⟨(some 41), .mov (.t 0), none⟩,
    ⟨(some 42), .mov (.t 12), none⟩,
    ⟨(some 43), .idxs 3 (.t 41) (.t 42), none⟩,
    ⟨(some 44), .faddr 2 (.t 43), none⟩,
    ⟨(some 45), .load none (.t 44), none⟩,
    ⟨(some 46), .idxarr 2 1 (.t 8) (.t 40), none⟩,
    ⟨none, .store 1 (.t 46) (.t 45), none⟩] none)
  (.seq (.seq (.region [⟨(some 47), .mov (.t 13), none⟩,
    ⟨(some 48), .idxarr 2 1 (.t 8) (.t 47), none⟩,
    ⟨(some 49), .load none (.t 48), none⟩] none)
  (.cond (.t 49) (.region [⟨(some 50), .mov (.t 13), none⟩,
    ⟨(some 51), .mov (.t 0), none⟩,
    ⟨(some 52), .mov (.t 12), none⟩,
    ⟨(some 53), .idxs 3 (.t 51) (.t 52), none⟩,
    ⟨(some 54), .faddr 0 (.t 53), none⟩,
    ⟨(some 55), .load none (.t 54), none⟩,
    ⟨(some 56), .idxarr 2 1 (.t 9) (.t 50), none⟩,
    ⟨none, .store 1 (.t 56) (.t 55), none⟩] none)
  (.skip)))
  (.seq (.seq (.region [⟨(some 57), .mov (.t 11), none⟩,
    ⟨(some 58), .mov (.t 57), none⟩,
    ⟨(some 59), .mov (.t 13), some (58, true)⟩,
    ⟨(some 60), .idxarr 2 1 (.t 8) (.t 59), some (58, true)⟩,
    ⟨(some 61), .load none (.t 60), some (58, true)⟩,
    ⟨(some 62), .un .not (.t 61), some (58, true)⟩,
    ⟨(some 63), .pick (.t 58) (.t 62) (.c (.bool false)), none⟩] none)
  (.cond (.t 63) (.seq (.region [⟨(some 64), .mov (.t 7), none⟩,
    ⟨(some 65), .mov (.t 7), none⟩,
    ⟨(some 66), .len false (.t 65), none⟩,
    ⟨(some 67), .bin .sub (.t 66) (.c (.int .i64 1)), none⟩,
    ⟨(some 68), .mov (.t 0), none⟩,
    ⟨(some 69), .mov (.t 12), none⟩,
    ⟨(some 70), .idxs 3 (.t 68) (.t 69), none⟩,
    ⟨(some 71), .faddr 0 (.t 70), none⟩,
    ⟨(some 72), .load none (.t 71), none⟩,
    ⟨(some 73), .idxs 2 (.t 64) (.t 67), none⟩,
    ⟨(some 74), .idxarr 2 1 (.t 73) (.c (.int .i64 1)), none⟩,
    ⟨none, .store 1 (.t 74) (.t 72), none⟩] (some [[], [], [1], [2], [], [], [4, 5], [6], [7], [0, 3], [9, 0, 1, 2, 3, 4, 5, 6, 7, 8], [10, 8, 0, 1, 2, 3, 4, 5, 6, 7, 8]]))
  (.region [⟨(some 11), .mov (.c (.bool false)), none⟩] none))
  (.skip)))
  (.seq (.seq (.region [⟨(some 75), .idxarr 2 1 (.t 8) (.c (.int .i64 0)), none⟩,
    ⟨(some 76), .load none (.t 75), none⟩,
    ⟨(some 77), .un .not (.t 76), none⟩,
    ⟨(some 78), .mov (.t 77), none⟩,
    ⟨(some 79), .idxarr 2 1 (.t 8) (.c (.int .i64 1)), some (78, true)⟩,
    ⟨(some 80), .load none (.t 79), some (78, true)⟩,
    ⟨(some 81), .un .not (.t 80), some (78, true)⟩,
    ⟨(some 82), .pick (.t 78) (.t 81) (.c (.bool false)), none⟩] none)
  (.cond (.t 82) (.region [⟨(some 10), .mov (.c (.bool true)), none⟩] none)
  (.skip)))
  (.seq (.region [⟨(some 83), .idxarr 2 1 (.t 8) (.c (.int .i64 0)), none⟩,
    ⟨(some 84), .load none (.t 83), none⟩,
    ⟨(some 85), .mov (.t 84), none⟩,
    ⟨(some 86), .idxarr 2 1 (.t 8) (.c (.int .i64 1)), some (85, true)⟩,
    ⟨(some 87), .load none (.t 86), some (85, true)⟩,
    ⟨(some 88), .pick (.t 85) (.t 87) (.c (.bool false)), none⟩] none)
  (.cond (.t 88) (.seq (.seq (.region [⟨(some 89), .mov (.t 10), none⟩,
    ⟨(some 90), .mov (.t 89), none⟩,
    ⟨(some 91), .idxarr 2 1 (.t 9) (.c (.int .i64 0)), some (90, true)⟩,
    ⟨(some 92), .load none (.t 91), some (90, true)⟩,
    ⟨(some 93), .idxarr 2 1 (.t 9) (.c (.int .i64 1)), some (90, true)⟩,
    ⟨(some 94), .load none (.t 93), some (90, true)⟩,
    ⟨(some 95), .minmax true [(.t 92), (.t 94)], some (90, true)⟩,
    ⟨(some 96), .idxarr 2 1 (.t 9) (.c (.int .i64 0)), some (90, true)⟩,
    ⟨(some 97), .load none (.t 96), some (90, true)⟩,
    ⟨(some 98), .idxarr 2 1 (.t 9) (.c (.int .i64 1)), some (90, true)⟩,
    ⟨(some 99), .load none (.t 98), some (90, true)⟩,
    ⟨(some 100), .minmax false [(.t 97), (.t 99)], some (90, true)⟩,
    ⟨(some 101), .bin .sub (.t 95) (.t 100), some (90, true)⟩,
    ⟨(some 102), .mov (.t 1), some (90, true)⟩,
    ⟨(some 103), .bin .leq (.t 101) (.t 102), some (90, true)⟩,
    ⟨(some 104), .pick (.t 90) (.t 103) (.c (.bool false)), none⟩] none)
  (.cond (.t 104) (.seq (.region [⟨(some 105), .mov (.t 7), none⟩,
    ⟨(some 106), .mov (.t 0), none⟩,
    ⟨(some 107), .mov (.t 12), none⟩,
    ⟨(some 108), .idxs 3 (.t 106) (.t 107), none⟩,
    ⟨(some 109), .faddr 0 (.t 108), none⟩,
    ⟨(some 110), .load none (.t 109), none⟩,
    ⟨(some 111), .build [.int .i64 0, .int .i64 0] [(0, 1, (.t 110)), (1, 1, (.c (.int .i64 (-1099511627776))))], none⟩,
    ⟨(some 112), .bslice 2 1 [.int .i64 0, .int .i64 0] [(0, 2, (.t 111))], none⟩,
    ⟨(some 113), .append 2 16 [.int .i64 0, .int .i64 0] (.t 105) (.t 112), none⟩,
    ⟨(some 7), .mov (.t 113), none⟩] none)
  (.region [⟨(some 11), .mov (.c (.bool true)), none⟩] none))
  (.skip)))
  (.region [⟨(some 10), .mov (.c (.bool false)), none⟩] none))
  (.skip)))))))))))
  (.region [⟨(some 24), .mov (.t 12), none⟩,
    ⟨(some 25), .bin .add (.t 24) (.c (.int .i64 1)), none⟩,
    ⟨(some 12), .mov (.t 25), none⟩] none))

-- pneumatic/pneumaticref49.TwoHand
def ic18 : IC := .seq (.region [⟨(some 4), .mov (.c (.nils)), none⟩,
    ⟨(some 5), .mov (.c (.int .i64 0)), none⟩] none)
  (.seq (.seq (.region [⟨(some 14), .mov (.t 0), none⟩,
    ⟨(some 15), .mov (.t 1), none⟩,
    ⟨(some 16), .call (.c (.fn 56 [] [])) [(.t 14), (.t 15)], none⟩,
    ⟨(some 6), .mov (.t 16), none⟩] none)
  (.seq (.region [⟨(some 17), .mov (.t 6), none⟩,
    ⟨(some 18), .bin .neq (.t 17) (.c (.int .i64 0)), none⟩] none)
  (.cond (.t 18) (.seq (.region [⟨(some 19), .mov (.t 6), none⟩,
    ⟨(some 4), .mov (.c (.nils)), none⟩,
    ⟨(some 5), .mov (.t 19), none⟩] none)
  (.ret))
  (.skip))))
  (.seq (.region [⟨(some 7), .mov (.c (.nils)), none⟩] none)
  (.seq (.region [⟨(some 8), .alloc [.bool false, .bool false], none⟩] none)
  (.seq (.region [⟨(some 9), .alloc [.int .i64 0, .int .i64 0], none⟩] none)
  (.seq (.region [⟨(some 10), .mov (.c (.bool true)), none⟩,
    ⟨(some 11), .mov (.c (.bool false)), none⟩] none)
  (.seq (.seq (.region [⟨(some 12), .mov (.c (.int .i64 0)), none⟩] none)
  (.block 0 (.loop body18)))
  (.seq (.region [⟨(some 114), .mov (.t 7), none⟩,
    ⟨(some 4), .mov (.t 114), none⟩,
    ⟨(some 5), .mov (.c (.int .i64 0)), none⟩] none)
  (.ret))))))))
theorem fn18 : env0.fn 18 = some ⟨115, ic18, [.t 4, .t 5]⟩ := by kernel_rfl


set_option maxHeartbeats 8000000 in
theorem round18A (l : List Ev) (w : Int) (i : Nat) (hi : i < l.length) (hl : l.length ≤ 600) (hat : l[i].1 ≠ -1099511627776) (d0 d1 : Bool) (s0 s1 : Int) (rdy : Bool) (w0 : World) (N0 : Nat) :
    Z Try.prog w0 N0 body18 (st 115 (tm18 l w i .nils rdy false) [(0, 0, .cells [.bool d0, .bool d1]), (1, 0, .cells [.int .i64 s0, .int .i64 s1])] 2 1) []
      (fun e S => e = .normal ∧ ∃ S', Sub0 w0 N0 S S' ∧ Mem 115 (fun out rdy' => tm18 l w (i + 1) out rdy' (openL (hstep w ⟨[], d0, d1, s0, s1, rdy⟩ l[i]).out)) (hstep w ⟨[], d0, d1, s0, s1, rdy⟩ l[i]) S') := by
  have ge : (l.map rowE)[((i : Nat) : Int).toNat]? = some (rowE l[i]) := by simp [hi]
  generalize l[i] = e at ge hat
  obtain ⟨at_, r, d⟩ := e
  have hc : decide (((i : Nat) : Int) < ((l.map rowE).length : Int)) = true := by simp [hi]
  unfold body18
  repeat (first
    | refine z_seq ?_
    | refine z_region rfl ?_
    | refine o_nil ?_
    | refine u_seq ?_
    | refine u_blk ?_
    | refine z_block ?_
    | refine z_skip ?_
    | refine z_ct rfl ?_
    | refine z_cf rfl ?_
    | refine z_exit ?_
    | refine z_ret ?_
    | refine u_exit ?_
    | refine u_exit_seq ?_
    | refine u_exit_other rfl ?_
    | refine u_ret_seq ?_
    | refine u_ret_blk ?_
    | refine o_gy rfl ?_
    | refine o_gn rfl rfl ?_
    | refine o_gt rfl ?_
    | refine o_mov rfl ?_
    | refine o_load rfl rfl ?_
    | refine o_loadn rfl rfl rfl rfl ?_
    | refine o_store rfl rfl rfl rfl rfl rfl rfl ?_
    | refine o_faddrm rfl ?_
    | refine o_faddrv rfl rfl rfl ?_
    | refine o_idxarrm rfl rfl rfl ?_
    | refine o_alloc ?_
    | refine o_pickt rfl rfl ?_
    | refine o_pickf rfl rfl ?_
    | refine o_un rfl rfl ?_
    | refine o_len rfl rfl ?_
    | refine o_build rfl rfl ?_
    | refine o_bslice rfl rfl ?_
    | refine o_box rfl rfl ?_
    | refine o_minmax2 rfl rfl rfl ?_
    | refine o_field rfl rfl ?_
    | refine o_append rfl rfl rfl rfl ?_
    | refine o_extract rfl rfl ?_
    | refine o_lenc ?_
    | refine z_drawn0 env0_ok rfl rfl rfl ?_
    | refine o_bin (op := .add) rfl rfl rfl ?_
    | refine o_bin (op := .sub) rfl rfl rfl ?_
    | refine o_eqbt rfl rfl rfl ?_
    | refine o_eqbf rfl rfl rfl ?_
    | refine o_cmpt rfl rfl rfl ?_
    | refine o_cmpf rfl rfl rfl ?_
    | refine o_idxs rfl rfl (Int.natCast_nonneg i) ge rfl ?_)
  refine o_cmp rfl rfl rfl (fun _ => ?_) fun h => absurd hc (by rw [h]; simp)
  repeat (first
    | refine z_seq ?_
    | refine z_region rfl ?_
    | refine o_nil ?_
    | refine u_seq ?_
    | refine u_blk ?_
    | refine z_block ?_
    | refine z_skip ?_
    | refine z_ct rfl ?_
    | refine z_cf rfl ?_
    | refine z_exit ?_
    | refine z_ret ?_
    | refine u_exit ?_
    | refine u_exit_seq ?_
    | refine u_exit_other rfl ?_
    | refine u_ret_seq ?_
    | refine u_ret_blk ?_
    | refine o_gy rfl ?_
    | refine o_gn rfl rfl ?_
    | refine o_gt rfl ?_
    | refine o_mov rfl ?_
    | refine o_load rfl rfl ?_
    | refine o_loadn rfl rfl rfl rfl ?_
    | refine o_store rfl rfl rfl rfl rfl rfl rfl ?_
    | refine o_faddrm rfl ?_
    | refine o_faddrv rfl rfl rfl ?_
    | refine o_idxarrm rfl rfl rfl ?_
    | refine o_alloc ?_
    | refine o_pickt rfl rfl ?_
    | refine o_pickf rfl rfl ?_
    | refine o_un rfl rfl ?_
    | refine o_len rfl rfl ?_
    | refine o_build rfl rfl ?_
    | refine o_bslice rfl rfl ?_
    | refine o_box rfl rfl ?_
    | refine o_minmax2 rfl rfl rfl ?_
    | refine o_field rfl rfl ?_
    | refine o_append rfl rfl rfl rfl ?_
    | refine o_extract rfl rfl ?_
    | refine o_lenc ?_
    | refine z_drawn0 env0_ok rfl rfl rfl ?_
    | refine o_bin (op := .add) rfl rfl rfl ?_
    | refine o_bin (op := .sub) rfl rfl rfl ?_
    | refine o_eqbt rfl rfl rfl ?_
    | refine o_eqbf rfl rfl rfl ?_
    | refine o_cmpt rfl rfl rfl ?_
    | refine o_cmpf rfl rfl rfl ?_
    | refine o_idxs rfl rfl (Int.natCast_nonneg i) ge rfl ?_)
  cases r <;> cases d <;> cases d0 <;> cases d1
  all_goals
    repeat (first
      | refine z_seq ?_
      | refine z_region rfl ?_
      | refine o_nil ?_
      | refine u_seq ?_
      | refine u_blk ?_
      | refine z_block ?_
      | refine z_skip ?_
      | refine z_ct rfl ?_
      | refine z_cf rfl ?_
      | refine z_exit ?_
      | refine z_ret ?_
      | refine u_exit ?_
      | refine u_exit_seq ?_
      | refine u_exit_other rfl ?_
      | refine u_ret_seq ?_
      | refine u_ret_blk ?_
      | refine o_gy rfl ?_
      | refine o_gn rfl rfl ?_
      | refine o_gt rfl ?_
      | refine o_mov rfl ?_
      | refine o_load rfl rfl ?_
      | refine o_loadn rfl rfl rfl rfl ?_
      | refine o_store rfl rfl rfl rfl rfl rfl rfl ?_
      | refine o_faddrm rfl ?_
      | refine o_faddrv rfl rfl rfl ?_
      | refine o_idxarrm rfl rfl rfl ?_
      | refine o_alloc ?_
      | refine o_pickt rfl rfl ?_
      | refine o_pickf rfl rfl ?_
      | refine o_un rfl rfl ?_
      | refine o_len rfl rfl ?_
      | refine o_build rfl rfl ?_
      | refine o_bslice rfl rfl ?_
      | refine o_box rfl rfl ?_
      | refine o_minmax2 rfl rfl rfl ?_
      | refine o_field rfl rfl ?_
      | refine o_append rfl rfl rfl rfl ?_
      | refine o_extract rfl rfl ?_
      | refine o_lenc ?_
      | refine z_drawn0 env0_ok rfl rfl rfl ?_
      | refine o_bin (op := .add) rfl rfl rfl ?_
      | refine o_bin (op := .sub) rfl rfl rfl ?_
      | refine o_eqbt rfl rfl rfl ?_
      | refine o_eqbf rfl rfl rfl ?_
      | refine o_cmpt rfl rfl rfl ?_
      | refine o_cmpf rfl rfl rfl ?_
      | refine o_idxs rfl rfl (Int.natCast_nonneg i) ge rfl ?_)
    try exact u_end ⟨rfl, _, sub_ren [(0, 0, [.bool _, .bool _]), (1, 0, [.int .i64 _, .int .i64 _])] rfl rfl (by simp) (.cons rfl rfl (ren_keep rfl) (.cons rfl rfl (ren_keep rfl) .nil)) (.cons rfl (.same rfl) (.cons rfl (.same rfl) (.cons rfl (.same rfl) (.cons rfl (.mptr rfl) (.cons rfl (.mptr rfl) (.cons rfl (.same rfl) (.cons rfl (.same rfl) (.cons rfl (ren_eq (congrArg (AV.int .i64) (wrap_succ i (by omega))) rfl) .nil)))))))), .none rfl⟩
  all_goals
    cases rdy
    · repeat (first
        | refine z_seq ?_
        | refine z_region rfl ?_
        | refine o_nil ?_
        | refine u_seq ?_
        | refine u_blk ?_
        | refine z_block ?_
        | refine z_skip ?_
        | refine z_ct rfl ?_
        | refine z_cf rfl ?_
        | refine z_exit ?_
        | refine z_ret ?_
        | refine u_exit ?_
        | refine u_exit_seq ?_
        | refine u_exit_other rfl ?_
        | refine u_ret_seq ?_
        | refine u_ret_blk ?_
        | refine o_gy rfl ?_
        | refine o_gn rfl rfl ?_
        | refine o_gt rfl ?_
        | refine o_mov rfl ?_
        | refine o_load rfl rfl ?_
        | refine o_loadn rfl rfl rfl rfl ?_
        | refine o_store rfl rfl rfl rfl rfl rfl rfl ?_
        | refine o_faddrm rfl ?_
        | refine o_faddrv rfl rfl rfl ?_
        | refine o_idxarrm rfl rfl rfl ?_
        | refine o_alloc ?_
        | refine o_pickt rfl rfl ?_
        | refine o_pickf rfl rfl ?_
        | refine o_un rfl rfl ?_
        | refine o_len rfl rfl ?_
        | refine o_build rfl rfl ?_
        | refine o_bslice rfl rfl ?_
        | refine o_box rfl rfl ?_
        | refine o_minmax2 rfl rfl rfl ?_
        | refine o_field rfl rfl ?_
        | refine o_append rfl rfl rfl rfl ?_
        | refine o_extract rfl rfl ?_
        | refine o_lenc ?_
        | refine z_drawn0 env0_ok rfl rfl rfl ?_
        | refine o_bin (op := .add) rfl rfl rfl ?_
        | refine o_bin (op := .sub) rfl rfl rfl ?_
        | refine o_eqbt rfl rfl rfl ?_
        | refine o_eqbf rfl rfl rfl ?_
        | refine o_cmpt rfl rfl rfl ?_
        | refine o_cmpf rfl rfl rfl ?_
        | refine o_idxs rfl rfl (Int.natCast_nonneg i) ge rfl ?_)
      exact u_end ⟨rfl, _, sub_ren [(0, 0, [.bool _, .bool _]), (1, 0, [.int .i64 _, .int .i64 _])] rfl rfl (by simp) (.cons rfl rfl (ren_keep rfl) (.cons rfl rfl (ren_keep rfl) .nil)) (.cons rfl (.same rfl) (.cons rfl (.same rfl) (.cons rfl (.same rfl) (.cons rfl (.mptr rfl) (.cons rfl (.mptr rfl) (.cons rfl (.same rfl) (.cons rfl (.same rfl) (.cons rfl (ren_eq (congrArg (AV.int .i64) (wrap_succ i (by omega))) rfl) .nil)))))))), .none rfl⟩
    · repeat (first
        | refine z_seq ?_
        | refine z_region rfl ?_
        | refine o_nil ?_
        | refine u_seq ?_
        | refine u_blk ?_
        | refine z_block ?_
        | refine z_skip ?_
        | refine z_ct rfl ?_
        | refine z_cf rfl ?_
        | refine z_exit ?_
        | refine z_ret ?_
        | refine u_exit ?_
        | refine u_exit_seq ?_
        | refine u_exit_other rfl ?_
        | refine u_ret_seq ?_
        | refine u_ret_blk ?_
        | refine o_gy rfl ?_
        | refine o_gn rfl rfl ?_
        | refine o_gt rfl ?_
        | refine o_mov rfl ?_
        | refine o_load rfl rfl ?_
        | refine o_loadn rfl rfl rfl rfl ?_
        | refine o_store rfl rfl rfl rfl rfl rfl rfl ?_
        | refine o_faddrm rfl ?_
        | refine o_faddrv rfl rfl rfl ?_
        | refine o_idxarrm rfl rfl rfl ?_
        | refine o_alloc ?_
        | refine o_pickt rfl rfl ?_
        | refine o_pickf rfl rfl ?_
        | refine o_un rfl rfl ?_
        | refine o_len rfl rfl ?_
        | refine o_build rfl rfl ?_
        | refine o_bslice rfl rfl ?_
        | refine o_box rfl rfl ?_
        | refine o_minmax2 rfl rfl rfl ?_
        | refine o_field rfl rfl ?_
        | refine o_append rfl rfl rfl rfl ?_
        | refine o_extract rfl rfl ?_
        | refine o_lenc ?_
        | refine z_drawn0 env0_ok rfl rfl rfl ?_
        | refine o_bin (op := .add) rfl rfl rfl ?_
        | refine o_bin (op := .sub) rfl rfl rfl ?_
        | refine o_eqbt rfl rfl rfl ?_
        | refine o_eqbf rfl rfl rfl ?_
        | refine o_cmpt rfl rfl rfl ?_
        | refine o_cmpf rfl rfl rfl ?_
        | refine o_idxs rfl rfl (Int.natCast_nonneg i) ge rfl ?_)
      refine o_cmp rfl rfl rfl (fun h => ?_) fun h => ?_
      · repeat (first
          | refine z_seq ?_
          | refine z_region rfl ?_
          | refine o_nil ?_
          | refine u_seq ?_
          | refine u_blk ?_
          | refine z_block ?_
          | refine z_skip ?_
          | refine z_ct rfl ?_
          | refine z_cf rfl ?_
          | refine z_exit ?_
          | refine z_ret ?_
          | refine u_exit ?_
          | refine u_exit_seq ?_
          | refine u_exit_other rfl ?_
          | refine u_ret_seq ?_
          | refine u_ret_blk ?_
          | refine o_gy rfl ?_
          | refine o_gn rfl rfl ?_
          | refine o_gt rfl ?_
          | refine o_mov rfl ?_
          | refine o_load rfl rfl ?_
          | refine o_loadn rfl rfl rfl rfl ?_
          | refine o_store rfl rfl rfl rfl rfl rfl rfl ?_
          | refine o_faddrm rfl ?_
          | refine o_faddrv rfl rfl rfl ?_
          | refine o_idxarrm rfl rfl rfl ?_
          | refine o_alloc ?_
          | refine o_pickt rfl rfl ?_
          | refine o_pickf rfl rfl ?_
          | refine o_un rfl rfl ?_
          | refine o_len rfl rfl ?_
          | refine o_build rfl rfl ?_
          | refine o_bslice rfl rfl ?_
          | refine o_box rfl rfl ?_
          | refine o_minmax2 rfl rfl rfl ?_
          | refine o_field rfl rfl ?_
          | refine o_append rfl rfl rfl rfl ?_
          | refine o_extract rfl rfl ?_
          | refine o_lenc ?_
          | refine z_drawn0 env0_ok rfl rfl rfl ?_
          | refine o_bin (op := .add) rfl rfl rfl ?_
          | refine o_bin (op := .sub) rfl rfl rfl ?_
          | refine o_eqbt rfl rfl rfl ?_
          | refine o_eqbf rfl rfl rfl ?_
          | refine o_cmpt rfl rfl rfl ?_
          | refine o_cmpf rfl rfl rfl ?_
          | refine o_idxs rfl rfl (Int.natCast_nonneg i) ge rfl ?_)
        have hle := of_decide_eq_true h
        have ho : (both w [] _ _ at_ true).out = [(at_, -1099511627776)] := if_pos ⟨rfl, hle⟩
        exact u_end ⟨rfl, _, sub_ren [(0, 0, [.bool _, .bool _]), (1, 0, [.int .i64 _, .int .i64 _]), (3, 2, [.int .i64 _, .int .i64 _])] rfl rfl (by simp) (.cons rfl rfl (ren_keep rfl) (.cons rfl rfl (ren_keep rfl) (.cons rfl rfl (ren_keep rfl) .nil))) (.cons rfl (.same rfl) (.cons rfl (.same rfl) (.cons rfl (.ms rfl) (.cons rfl (.mptr rfl) (.cons rfl (.mptr rfl) (.cons rfl (.same rfl) (.cons rfl (ren_eq (congrArg AV.bool (congrArg openL ho).symm) rfl) (.cons rfl (ren_eq (congrArg (AV.int .i64) (wrap_succ i (by omega))) rfl) .nil)))))))), .some [] at_ (-1099511627776) ho⟩
      · repeat (first
          | refine z_seq ?_
          | refine z_region rfl ?_
          | refine o_nil ?_
          | refine u_seq ?_
          | refine u_blk ?_
          | refine z_block ?_
          | refine z_skip ?_
          | refine z_ct rfl ?_
          | refine z_cf rfl ?_
          | refine z_exit ?_
          | refine z_ret ?_
          | refine u_exit ?_
          | refine u_exit_seq ?_
          | refine u_exit_other rfl ?_
          | refine u_ret_seq ?_
          | refine u_ret_blk ?_
          | refine o_gy rfl ?_
          | refine o_gn rfl rfl ?_
          | refine o_gt rfl ?_
          | refine o_mov rfl ?_
          | refine o_load rfl rfl ?_
          | refine o_loadn rfl rfl rfl rfl ?_
          | refine o_store rfl rfl rfl rfl rfl rfl rfl ?_
          | refine o_faddrm rfl ?_
          | refine o_faddrv rfl rfl rfl ?_
          | refine o_idxarrm rfl rfl rfl ?_
          | refine o_alloc ?_
          | refine o_pickt rfl rfl ?_
          | refine o_pickf rfl rfl ?_
          | refine o_un rfl rfl ?_
          | refine o_len rfl rfl ?_
          | refine o_build rfl rfl ?_
          | refine o_bslice rfl rfl ?_
          | refine o_box rfl rfl ?_
          | refine o_minmax2 rfl rfl rfl ?_
          | refine o_field rfl rfl ?_
          | refine o_append rfl rfl rfl rfl ?_
          | refine o_extract rfl rfl ?_
          | refine o_lenc ?_
          | refine z_drawn0 env0_ok rfl rfl rfl ?_
          | refine o_bin (op := .add) rfl rfl rfl ?_
          | refine o_bin (op := .sub) rfl rfl rfl ?_
          | refine o_eqbt rfl rfl rfl ?_
          | refine o_eqbf rfl rfl rfl ?_
          | refine o_cmpt rfl rfl rfl ?_
          | refine o_cmpf rfl rfl rfl ?_
          | refine o_idxs rfl rfl (Int.natCast_nonneg i) ge rfl ?_)
        have hle := of_decide_eq_false h
        have ho : (both w [] _ _ at_ true).out = [] := if_neg fun x => hle x.2
        exact u_end ⟨rfl, _, sub_ren [(0, 0, [.bool _, .bool _]), (1, 0, [.int .i64 _, .int .i64 _])] rfl rfl (by simp) (.cons rfl rfl (ren_keep rfl) (.cons rfl rfl (ren_keep rfl) .nil)) (.cons rfl (.same rfl) (.cons rfl (.same rfl) (.cons rfl (.same rfl) (.cons rfl (.mptr rfl) (.cons rfl (.mptr rfl) (.cons rfl (.same rfl) (.cons rfl (ren_eq (congrArg AV.bool (congrArg openL ho).symm) rfl) (.cons rfl (ren_eq (congrArg (AV.int .i64) (wrap_succ i (by omega))) rfl) .nil)))))))), .none ho⟩

theorem openL_eq (init : List (Int × Int)) (p q : Int) : openL (init ++ [(p, q)]) = decide (q = -1099511627776) := by
  unfold openL
  rw [List.getLast?_concat]

set_option maxHeartbeats 8000000 in
theorem round18B (l : List Ev) (w : Int) (i : Nat) (hi : i < l.length) (hl : l.length ≤ 600) (hat : l[i].1 ≠ -1099511627776) (d0 d1 : Bool) (s0 s1 : Int) (rdy on : Bool) (init : List (Int × Int)) (p q : Int) (hn : init.length ≤ 600) (hon : on = decide (q = -1099511627776)) (w0 : World) (N0 : Nat) :
    Z Try.prog w0 N0 body18 (st 115 (tm18 l w i (.ms 2 0 2 0 (init.length + 1) none) rdy on) [(0, 0, .cells [.bool d0, .bool d1]), (1, 0, .cells [.int .i64 s0, .int .i64 s1]), (2, 0, .cells ((init.map rowP).flatten ++ [.int .i64 p, .int .i64 q]))] 3 1) []
      (fun e S => e = .normal ∧ ∃ S', Sub0 w0 N0 S S' ∧ Mem 115 (fun out rdy' => tm18 l w (i + 1) out rdy' (openL (hstep w ⟨init ++ [(p, q)], d0, d1, s0, s1, rdy⟩ l[i]).out)) (hstep w ⟨init ++ [(p, q)], d0, d1, s0, s1, rdy⟩ l[i]) S') := by
  have e1 : IntKind.wrap .i64 (((init.length + 1 : Nat) : Int) - 1) = (init.length : Int) := by rw [wrap_small _ (by omega) (by omega)]; omega
  have h0 : 0 ≤ IntKind.wrap .i64 (((init.length + 1 : Nat) : Int) - 1) := by rw [e1]; omega
  have hlt : IntKind.wrap .i64 (((init.length + 1 : Nat) : Int) - 1) < ((init.length + 1 : Nat) : Int) := by rw [e1]; omega
  have ge : (l.map rowE)[((i : Nat) : Int).toNat]? = some (rowE l[i]) := by simp [hi]
  generalize l[i] = e at ge hat
  obtain ⟨at_, r, d⟩ := e
  have hc : decide (((i : Nat) : Int) < ((l.map rowE).length : Int)) = true := by simp [hi]
  unfold body18
  repeat (first
    | refine z_seq ?_
    | refine z_region rfl ?_
    | refine o_nil ?_
    | refine u_seq ?_
    | refine u_blk ?_
    | refine z_block ?_
    | refine z_skip ?_
    | refine z_ct rfl ?_
    | refine z_cf rfl ?_
    | refine z_exit ?_
    | refine z_ret ?_
    | refine u_exit ?_
    | refine u_exit_seq ?_
    | refine u_exit_other rfl ?_
    | refine u_ret_seq ?_
    | refine u_ret_blk ?_
    | refine o_gy rfl ?_
    | refine o_gn rfl rfl ?_
    | refine o_gt rfl ?_
    | refine o_mov rfl ?_
    | refine o_load rfl rfl ?_
    | refine o_loadn rfl rfl rfl rfl ?_
    | refine o_store rfl rfl rfl rfl rfl rfl rfl ?_
    | refine o_faddrm rfl ?_
    | refine o_faddrv rfl rfl rfl ?_
    | refine o_idxarrm rfl rfl rfl ?_
    | refine o_alloc ?_
    | refine o_pickt rfl rfl ?_
    | refine o_pickf rfl rfl ?_
    | refine o_un rfl rfl ?_
    | refine o_len rfl rfl ?_
    | refine o_build rfl rfl ?_
    | refine o_bslice rfl rfl ?_
    | refine o_box rfl rfl ?_
    | refine o_minmax2 rfl rfl rfl ?_
    | refine o_field rfl rfl ?_
    | refine o_append rfl rfl rfl rfl ?_
    | refine o_extract rfl rfl ?_
    | refine o_lenc ?_
    | refine z_drawn0 env0_ok rfl rfl rfl ?_
    | refine o_bin (op := .add) rfl rfl rfl ?_
    | refine o_bin (op := .sub) rfl rfl rfl ?_
    | refine o_eqbt rfl rfl rfl ?_
    | refine o_eqbf rfl rfl rfl ?_
    | refine o_cmpt rfl rfl rfl ?_
    | refine o_cmpf rfl rfl rfl ?_
    | refine o_idxs rfl rfl (Int.natCast_nonneg i) ge rfl ?_)
  refine o_cmp rfl rfl rfl (fun _ => ?_) fun h => absurd hc (by rw [h]; simp)
  repeat (first
    | refine z_seq ?_
    | refine z_region rfl ?_
    | refine o_nil ?_
    | refine u_seq ?_
    | refine u_blk ?_
    | refine z_block ?_
    | refine z_skip ?_
    | refine z_ct rfl ?_
    | refine z_cf rfl ?_
    | refine z_exit ?_
    | refine z_ret ?_
    | refine u_exit ?_
    | refine u_exit_seq ?_
    | refine u_exit_other rfl ?_
    | refine u_ret_seq ?_
    | refine u_ret_blk ?_
    | refine o_gy rfl ?_
    | refine o_gn rfl rfl ?_
    | refine o_gt rfl ?_
    | refine o_mov rfl ?_
    | refine o_load rfl rfl ?_
    | refine o_loadn rfl rfl rfl rfl ?_
    | refine o_store rfl rfl rfl rfl rfl rfl rfl ?_
    | refine o_faddrm rfl ?_
    | refine o_faddrv rfl rfl rfl ?_
    | refine o_idxarrm rfl rfl rfl ?_
    | refine o_alloc ?_
    | refine o_pickt rfl rfl ?_
    | refine o_pickf rfl rfl ?_
    | refine o_un rfl rfl ?_
    | refine o_len rfl rfl ?_
    | refine o_build rfl rfl ?_
    | refine o_bslice rfl rfl ?_
    | refine o_box rfl rfl ?_
    | refine o_minmax2 rfl rfl rfl ?_
    | refine o_field rfl rfl ?_
    | refine o_append rfl rfl rfl rfl ?_
    | refine o_extract rfl rfl ?_
    | refine o_lenc ?_
    | refine z_drawn0 env0_ok rfl rfl rfl ?_
    | refine o_bin (op := .add) rfl rfl rfl ?_
    | refine o_bin (op := .sub) rfl rfl rfl ?_
    | refine o_eqbt rfl rfl rfl ?_
    | refine o_eqbf rfl rfl rfl ?_
    | refine o_cmpt rfl rfl rfl ?_
    | refine o_cmpf rfl rfl rfl ?_
    | refine o_idxs rfl rfl (Int.natCast_nonneg i) ge rfl ?_)
  cases r <;> cases d <;> cases d0 <;> cases d1
  all_goals
    repeat (first
      | refine z_seq ?_
      | refine z_region rfl ?_
      | refine o_nil ?_
      | refine u_seq ?_
      | refine u_blk ?_
      | refine z_block ?_
      | refine z_skip ?_
      | refine z_ct rfl ?_
      | refine z_cf rfl ?_
      | refine z_exit ?_
      | refine z_ret ?_
      | refine u_exit ?_
      | refine u_exit_seq ?_
      | refine u_exit_other rfl ?_
      | refine u_ret_seq ?_
      | refine u_ret_blk ?_
      | refine o_gy rfl ?_
      | refine o_gn rfl rfl ?_
      | refine o_gt rfl ?_
      | refine o_mov rfl ?_
      | refine o_load rfl rfl ?_
      | refine o_loadn rfl rfl rfl rfl ?_
      | refine o_store rfl rfl rfl rfl rfl rfl rfl ?_
      | refine o_faddrm rfl ?_
      | refine o_faddrv rfl rfl rfl ?_
      | refine o_idxarrm rfl rfl rfl ?_
      | refine o_alloc ?_
      | refine o_pickt rfl rfl ?_
      | refine o_pickf rfl rfl ?_
      | refine o_un rfl rfl ?_
      | refine o_len rfl rfl ?_
      | refine o_build rfl rfl ?_
      | refine o_bslice rfl rfl ?_
      | refine o_box rfl rfl ?_
      | refine o_minmax2 rfl rfl rfl ?_
      | refine o_field rfl rfl ?_
      | refine o_append rfl rfl rfl rfl ?_
      | refine o_extract rfl rfl ?_
      | refine o_lenc ?_
      | refine z_drawn0 env0_ok rfl rfl rfl ?_
      | refine o_bin (op := .add) rfl rfl rfl ?_
      | refine o_bin (op := .sub) rfl rfl rfl ?_
      | refine o_eqbt rfl rfl rfl ?_
      | refine o_eqbf rfl rfl rfl ?_
      | refine o_cmpt rfl rfl rfl ?_
      | refine o_cmpf rfl rfl rfl ?_
      | refine o_idxs rfl rfl (Int.natCast_nonneg i) ge rfl ?_)
    try exact u_end ⟨rfl, _, sub_ren [(0, 0, [.bool _, .bool _]), (1, 0, [.int .i64 _, .int .i64 _]), (2, 0, (init.map rowP).flatten ++ [.int .i64 p, .int .i64 q])] rfl rfl (by simp) (.cons rfl rfl (ren_keep rfl) (.cons rfl rfl (ren_keep rfl) (.cons rfl rfl (ren_keep (hM2 init p q)) .nil))) (.cons rfl (.same rfl) (.cons rfl (.same rfl) (.cons rfl (.ms rfl) (.cons rfl (.mptr rfl) (.cons rfl (.mptr rfl) (.cons rfl (.same rfl) (.cons rfl (ren_eq (congrArg AV.bool (hon.trans (openL_eq init p q).symm)) rfl) (.cons rfl (ren_eq (congrArg (AV.int .i64) (wrap_succ i (by omega))) rfl) .nil)))))))), .some init p q rfl⟩
  · cases on
    · have hq : ¬ q = -1099511627776 := of_decide_eq_false hon.symm
      repeat (first
        | refine z_seq ?_
        | refine z_region rfl ?_
        | refine o_nil ?_
        | refine u_seq ?_
        | refine u_blk ?_
        | refine z_block ?_
        | refine z_skip ?_
        | refine z_ct rfl ?_
        | refine z_cf rfl ?_
        | refine z_exit ?_
        | refine z_ret ?_
        | refine u_exit ?_
        | refine u_exit_seq ?_
        | refine u_exit_other rfl ?_
        | refine u_ret_seq ?_
        | refine u_ret_blk ?_
        | refine o_gy rfl ?_
        | refine o_gn rfl rfl ?_
        | refine o_gt rfl ?_
        | refine o_mov rfl ?_
        | refine o_load rfl rfl ?_
        | refine o_loadn rfl rfl rfl rfl ?_
        | refine o_store rfl rfl rfl rfl rfl rfl rfl ?_
        | refine o_faddrm rfl ?_
        | refine o_faddrv rfl rfl rfl ?_
        | refine o_idxarrm rfl rfl rfl ?_
        | refine o_alloc ?_
        | refine o_pickt rfl rfl ?_
        | refine o_pickf rfl rfl ?_
        | refine o_un rfl rfl ?_
        | refine o_len rfl rfl ?_
        | refine o_build rfl rfl ?_
        | refine o_bslice rfl rfl ?_
        | refine o_box rfl rfl ?_
        | refine o_minmax2 rfl rfl rfl ?_
        | refine o_field rfl rfl ?_
        | refine o_append rfl rfl rfl rfl ?_
        | refine o_extract rfl rfl ?_
        | refine o_lenc ?_
        | refine z_drawn0 env0_ok rfl rfl rfl ?_
        | refine o_bin (op := .add) rfl rfl rfl ?_
        | refine o_bin (op := .sub) rfl rfl rfl ?_
        | refine o_eqbt rfl rfl rfl ?_
        | refine o_eqbf rfl rfl rfl ?_
        | refine o_cmpt rfl rfl rfl ?_
        | refine o_cmpf rfl rfl rfl ?_
        | refine o_idxs rfl rfl (Int.natCast_nonneg i) ge rfl ?_)
      have ho := (closeL_eq init p q at_).trans (if_neg hq)
      exact u_end ⟨rfl, _, sub_ren [(0, 0, [.bool _, .bool _]), (1, 0, [.int .i64 _, .int .i64 _]), (2, 0, (init.map rowP).flatten ++ [.int .i64 p, .int .i64 q])] rfl rfl (by simp) (.cons rfl rfl (ren_keep rfl) (.cons rfl rfl (ren_keep rfl) (.cons rfl rfl (ren_keep (hM2 init p q)) .nil))) (.cons rfl (.same rfl) (.cons rfl (.same rfl) (.cons rfl (.ms rfl) (.cons rfl (.mptr rfl) (.cons rfl (.mptr rfl) (.cons rfl (.same rfl) (.cons rfl (ren_eq (congrArg AV.bool (hon.trans ((congrArg openL ho).trans (openL_eq init p q)).symm)) rfl) (.cons rfl (ren_eq (congrArg (AV.int .i64) (wrap_succ i (by omega))) rfl) .nil)))))))), .some init p q ho⟩
    · have hq : q = -1099511627776 := of_decide_eq_true hon.symm
      repeat (first
        | refine z_seq ?_
        | refine z_region rfl ?_
        | refine o_nil ?_
        | refine u_seq ?_
        | refine u_blk ?_
        | refine z_block ?_
        | refine z_skip ?_
        | refine z_ct rfl ?_
        | refine z_cf rfl ?_
        | refine z_exit ?_
        | refine z_ret ?_
        | refine u_exit ?_
        | refine u_exit_seq ?_
        | refine u_exit_other rfl ?_
        | refine u_ret_seq ?_
        | refine u_ret_blk ?_
        | refine o_gy rfl ?_
        | refine o_gn rfl rfl ?_
        | refine o_gt rfl ?_
        | refine o_mov rfl ?_
        | refine o_load rfl rfl ?_
        | refine o_loadn rfl rfl rfl rfl ?_
        | refine o_store rfl rfl rfl rfl rfl rfl rfl ?_
        | refine o_faddrm rfl ?_
        | refine o_faddrv rfl rfl rfl ?_
        | refine o_idxarrm rfl rfl rfl ?_
        | refine o_alloc ?_
        | refine o_pickt rfl rfl ?_
        | refine o_pickf rfl rfl ?_
        | refine o_un rfl rfl ?_
        | refine o_len rfl rfl ?_
        | refine o_build rfl rfl ?_
        | refine o_bslice rfl rfl ?_
        | refine o_box rfl rfl ?_
        | refine o_minmax2 rfl rfl rfl ?_
        | refine o_field rfl rfl ?_
        | refine o_append rfl rfl rfl rfl ?_
        | refine o_extract rfl rfl ?_
        | refine o_lenc ?_
        | refine z_drawn0 env0_ok rfl rfl rfl ?_
        | refine o_bin (op := .add) rfl rfl rfl ?_
        | refine o_bin (op := .sub) rfl rfl rfl ?_
        | refine o_eqbt rfl rfl rfl ?_
        | refine o_eqbf rfl rfl rfl ?_
        | refine o_cmpt rfl rfl rfl ?_
        | refine o_cmpf rfl rfl rfl ?_
        | refine o_idxs rfl rfl (Int.natCast_nonneg i) ge rfl ?_)
      refine o_idxsm rfl rfl h0 hlt ?_
      repeat (first
        | refine z_seq ?_
        | refine z_region rfl ?_
        | refine o_nil ?_
        | refine u_seq ?_
        | refine u_blk ?_
        | refine z_block ?_
        | refine z_skip ?_
        | refine z_ct rfl ?_
        | refine z_cf rfl ?_
        | refine z_exit ?_
        | refine z_ret ?_
        | refine u_exit ?_
        | refine u_exit_seq ?_
        | refine u_exit_other rfl ?_
        | refine u_ret_seq ?_
        | refine u_ret_blk ?_
        | refine o_gy rfl ?_
        | refine o_gn rfl rfl ?_
        | refine o_gt rfl ?_
        | refine o_mov rfl ?_
        | refine o_load rfl rfl ?_
        | refine o_loadn rfl rfl rfl rfl ?_
        | refine o_store rfl rfl rfl rfl rfl rfl rfl ?_
        | refine o_faddrm rfl ?_
        | refine o_faddrv rfl rfl rfl ?_
        | refine o_idxarrm rfl rfl rfl ?_
        | refine o_alloc ?_
        | refine o_pickt rfl rfl ?_
        | refine o_pickf rfl rfl ?_
        | refine o_un rfl rfl ?_
        | refine o_len rfl rfl ?_
        | refine o_build rfl rfl ?_
        | refine o_bslice rfl rfl ?_
        | refine o_box rfl rfl ?_
        | refine o_minmax2 rfl rfl rfl ?_
        | refine o_field rfl rfl ?_
        | refine o_append rfl rfl rfl rfl ?_
        | refine o_extract rfl rfl ?_
        | refine o_lenc ?_
        | refine z_drawn0 env0_ok rfl rfl rfl ?_
        | refine o_bin (op := .add) rfl rfl rfl ?_
        | refine o_bin (op := .sub) rfl rfl rfl ?_
        | refine o_eqbt rfl rfl rfl ?_
        | refine o_eqbf rfl rfl rfl ?_
        | refine o_cmpt rfl rfl rfl ?_
        | refine o_cmpf rfl rfl rfl ?_
        | refine o_idxs rfl rfl (Int.natCast_nonneg i) ge rfl ?_)
      refine o_store rfl rfl rfl rfl rfl (hleB init p q hn) rfl ?_
      repeat (first
        | refine z_seq ?_
        | refine z_region rfl ?_
        | refine o_nil ?_
        | refine u_seq ?_
        | refine u_blk ?_
        | refine z_block ?_
        | refine z_skip ?_
        | refine z_ct rfl ?_
        | refine z_cf rfl ?_
        | refine z_exit ?_
        | refine z_ret ?_
        | refine u_exit ?_
        | refine u_exit_seq ?_
        | refine u_exit_other rfl ?_
        | refine u_ret_seq ?_
        | refine u_ret_blk ?_
        | refine o_gy rfl ?_
        | refine o_gn rfl rfl ?_
        | refine o_gt rfl ?_
        | refine o_mov rfl ?_
        | refine o_load rfl rfl ?_
        | refine o_loadn rfl rfl rfl rfl ?_
        | refine o_store rfl rfl rfl rfl rfl rfl rfl ?_
        | refine o_faddrm rfl ?_
        | refine o_faddrv rfl rfl rfl ?_
        | refine o_idxarrm rfl rfl rfl ?_
        | refine o_alloc ?_
        | refine o_pickt rfl rfl ?_
        | refine o_pickf rfl rfl ?_
        | refine o_un rfl rfl ?_
        | refine o_len rfl rfl ?_
        | refine o_build rfl rfl ?_
        | refine o_bslice rfl rfl ?_
        | refine o_box rfl rfl ?_
        | refine o_minmax2 rfl rfl rfl ?_
        | refine o_field rfl rfl ?_
        | refine o_append rfl rfl rfl rfl ?_
        | refine o_extract rfl rfl ?_
        | refine o_lenc ?_
        | refine z_drawn0 env0_ok rfl rfl rfl ?_
        | refine o_bin (op := .add) rfl rfl rfl ?_
        | refine o_bin (op := .sub) rfl rfl rfl ?_
        | refine o_eqbt rfl rfl rfl ?_
        | refine o_eqbf rfl rfl rfl ?_
        | refine o_cmpt rfl rfl rfl ?_
        | refine o_cmpf rfl rfl rfl ?_
        | refine o_idxs rfl rfl (Int.natCast_nonneg i) ge rfl ?_)
      have ho := (closeL_eq init p q at_).trans (if_pos hq)
      exact u_end ⟨rfl, _, sub_ren [(0, 0, [.bool _, .bool _]), (1, 0, [.int .i64 _, .int .i64 _]), (2, 0, (init.map rowP).flatten ++ [.int .i64 p, .int .i64 at_])] rfl rfl (by simp) (.cons rfl rfl (ren_keep rfl) (.cons rfl rfl (ren_keep rfl) (.cons (by rw [← hsetB init p q at_ hn]; rfl) rfl (ren_keep (hM2 init p at_)) .nil))) (.cons rfl (.same rfl) (.cons rfl (.same rfl) (.cons rfl (.ms rfl) (.cons rfl (.mptr rfl) (.cons rfl (.mptr rfl) (.cons rfl (.same rfl) (.cons rfl (ren_eq (congrArg AV.bool ((decide_eq_false hat).symm.trans ((congrArg openL ho).trans (openL_eq init p at_)).symm)) rfl) (.cons rfl (ren_eq (congrArg (AV.int .i64) (wrap_succ i (by omega))) rfl) .nil)))))))), .some init p at_ ho⟩
  · cases on
    · have hq : ¬ q = -1099511627776 := of_decide_eq_false hon.symm
      repeat (first
        | refine z_seq ?_
        | refine z_region rfl ?_
        | refine o_nil ?_
        | refine u_seq ?_
        | refine u_blk ?_
        | refine z_block ?_
        | refine z_skip ?_
        | refine z_ct rfl ?_
        | refine z_cf rfl ?_
        | refine z_exit ?_
        | refine z_ret ?_
        | refine u_exit ?_
        | refine u_exit_seq ?_
        | refine u_exit_other rfl ?_
        | refine u_ret_seq ?_
        | refine u_ret_blk ?_
        | refine o_gy rfl ?_
        | refine o_gn rfl rfl ?_
        | refine o_gt rfl ?_
        | refine o_mov rfl ?_
        | refine o_load rfl rfl ?_
        | refine o_loadn rfl rfl rfl rfl ?_
        | refine o_store rfl rfl rfl rfl rfl rfl rfl ?_
        | refine o_faddrm rfl ?_
        | refine o_faddrv rfl rfl rfl ?_
        | refine o_idxarrm rfl rfl rfl ?_
        | refine o_alloc ?_
        | refine o_pickt rfl rfl ?_
        | refine o_pickf rfl rfl ?_
        | refine o_un rfl rfl ?_
        | refine o_len rfl rfl ?_
        | refine o_build rfl rfl ?_
        | refine o_bslice rfl rfl ?_
        | refine o_box rfl rfl ?_
        | refine o_minmax2 rfl rfl rfl ?_
        | refine o_field rfl rfl ?_
        | refine o_append rfl rfl rfl rfl ?_
        | refine o_extract rfl rfl ?_
        | refine o_lenc ?_
        | refine z_drawn0 env0_ok rfl rfl rfl ?_
        | refine o_bin (op := .add) rfl rfl rfl ?_
        | refine o_bin (op := .sub) rfl rfl rfl ?_
        | refine o_eqbt rfl rfl rfl ?_
        | refine o_eqbf rfl rfl rfl ?_
        | refine o_cmpt rfl rfl rfl ?_
        | refine o_cmpf rfl rfl rfl ?_
        | refine o_idxs rfl rfl (Int.natCast_nonneg i) ge rfl ?_)
      have ho := (closeL_eq init p q at_).trans (if_neg hq)
      exact u_end ⟨rfl, _, sub_ren [(0, 0, [.bool _, .bool _]), (1, 0, [.int .i64 _, .int .i64 _]), (2, 0, (init.map rowP).flatten ++ [.int .i64 p, .int .i64 q])] rfl rfl (by simp) (.cons rfl rfl (ren_keep rfl) (.cons rfl rfl (ren_keep rfl) (.cons rfl rfl (ren_keep (hM2 init p q)) .nil))) (.cons rfl (.same rfl) (.cons rfl (.same rfl) (.cons rfl (.ms rfl) (.cons rfl (.mptr rfl) (.cons rfl (.mptr rfl) (.cons rfl (.same rfl) (.cons rfl (ren_eq (congrArg AV.bool (hon.trans ((congrArg openL ho).trans (openL_eq init p q)).symm)) rfl) (.cons rfl (ren_eq (congrArg (AV.int .i64) (wrap_succ i (by omega))) rfl) .nil)))))))), .some init p q ho⟩
    · have hq : q = -1099511627776 := of_decide_eq_true hon.symm
      repeat (first
        | refine z_seq ?_
        | refine z_region rfl ?_
        | refine o_nil ?_
        | refine u_seq ?_
        | refine u_blk ?_
        | refine z_block ?_
        | refine z_skip ?_
        | refine z_ct rfl ?_
        | refine z_cf rfl ?_
        | refine z_exit ?_
        | refine z_ret ?_
        | refine u_exit ?_
        | refine u_exit_seq ?_
        | refine u_exit_other rfl ?_
        | refine u_ret_seq ?_
        | refine u_ret_blk ?_
        | refine o_gy rfl ?_
        | refine o_gn rfl rfl ?_
        | refine o_gt rfl ?_
        | refine o_mov rfl ?_
        | refine o_load rfl rfl ?_
        | refine o_loadn rfl rfl rfl rfl ?_
        | refine o_store rfl rfl rfl rfl rfl rfl rfl ?_
        | refine o_faddrm rfl ?_
        | refine o_faddrv rfl rfl rfl ?_
        | refine o_idxarrm rfl rfl rfl ?_
        | refine o_alloc ?_
        | refine o_pickt rfl rfl ?_
        | refine o_pickf rfl rfl ?_
        | refine o_un rfl rfl ?_
        | refine o_len rfl rfl ?_
        | refine o_build rfl rfl ?_
        | refine o_bslice rfl rfl ?_
        | refine o_box rfl rfl ?_
        | refine o_minmax2 rfl rfl rfl ?_
        | refine o_field rfl rfl ?_
        | refine o_append rfl rfl rfl rfl ?_
        | refine o_extract rfl rfl ?_
        | refine o_lenc ?_
        | refine z_drawn0 env0_ok rfl rfl rfl ?_
        | refine o_bin (op := .add) rfl rfl rfl ?_
        | refine o_bin (op := .sub) rfl rfl rfl ?_
        | refine o_eqbt rfl rfl rfl ?_
        | refine o_eqbf rfl rfl rfl ?_
        | refine o_cmpt rfl rfl rfl ?_
        | refine o_cmpf rfl rfl rfl ?_
        | refine o_idxs rfl rfl (Int.natCast_nonneg i) ge rfl ?_)
      refine o_idxsm rfl rfl h0 hlt ?_
      repeat (first
        | refine z_seq ?_
        | refine z_region rfl ?_
        | refine o_nil ?_
        | refine u_seq ?_
        | refine u_blk ?_
        | refine z_block ?_
        | refine z_skip ?_
        | refine z_ct rfl ?_
        | refine z_cf rfl ?_
        | refine z_exit ?_
        | refine z_ret ?_
        | refine u_exit ?_
        | refine u_exit_seq ?_
        | refine u_exit_other rfl ?_
        | refine u_ret_seq ?_
        | refine u_ret_blk ?_
        | refine o_gy rfl ?_
        | refine o_gn rfl rfl ?_
        | refine o_gt rfl ?_
        | refine o_mov rfl ?_
        | refine o_load rfl rfl ?_
        | refine o_loadn rfl rfl rfl rfl ?_
        | refine o_store rfl rfl rfl rfl rfl rfl rfl ?_
        | refine o_faddrm rfl ?_
        | refine o_faddrv rfl rfl rfl ?_
        | refine o_idxarrm rfl rfl rfl ?_
        | refine o_alloc ?_
        | refine o_pickt rfl rfl ?_
        | refine o_pickf rfl rfl ?_
        | refine o_un rfl rfl ?_
        | refine o_len rfl rfl ?_
        | refine o_build rfl rfl ?_
        | refine o_bslice rfl rfl ?_
        | refine o_box rfl rfl ?_
        | refine o_minmax2 rfl rfl rfl ?_
        | refine o_field rfl rfl ?_
        | refine o_append rfl rfl rfl rfl ?_
        | refine o_extract rfl rfl ?_
        | refine o_lenc ?_
        | refine z_drawn0 env0_ok rfl rfl rfl ?_
        | refine o_bin (op := .add) rfl rfl rfl ?_
        | refine o_bin (op := .sub) rfl rfl rfl ?_
        | refine o_eqbt rfl rfl rfl ?_
        | refine o_eqbf rfl rfl rfl ?_
        | refine o_cmpt rfl rfl rfl ?_
        | refine o_cmpf rfl rfl rfl ?_
        | refine o_idxs rfl rfl (Int.natCast_nonneg i) ge rfl ?_)
      refine o_store rfl rfl rfl rfl rfl (hleB init p q hn) rfl ?_
      repeat (first
        | refine z_seq ?_
        | refine z_region rfl ?_
        | refine o_nil ?_
        | refine u_seq ?_
        | refine u_blk ?_
        | refine z_block ?_
        | refine z_skip ?_
        | refine z_ct rfl ?_
        | refine z_cf rfl ?_
        | refine z_exit ?_
        | refine z_ret ?_
        | refine u_exit ?_
        | refine u_exit_seq ?_
        | refine u_exit_other rfl ?_
        | refine u_ret_seq ?_
        | refine u_ret_blk ?_
        | refine o_gy rfl ?_
        | refine o_gn rfl rfl ?_
        | refine o_gt rfl ?_
        | refine o_mov rfl ?_
        | refine o_load rfl rfl ?_
        | refine o_loadn rfl rfl rfl rfl ?_
        | refine o_store rfl rfl rfl rfl rfl rfl rfl ?_
        | refine o_faddrm rfl ?_
        | refine o_faddrv rfl rfl rfl ?_
        | refine o_idxarrm rfl rfl rfl ?_
        | refine o_alloc ?_
        | refine o_pickt rfl rfl ?_
        | refine o_pickf rfl rfl ?_
        | refine o_un rfl rfl ?_
        | refine o_len rfl rfl ?_
        | refine o_build rfl rfl ?_
        | refine o_bslice rfl rfl ?_
        | refine o_box rfl rfl ?_
        | refine o_minmax2 rfl rfl rfl ?_
        | refine o_field rfl rfl ?_
        | refine o_append rfl rfl rfl rfl ?_
        | refine o_extract rfl rfl ?_
        | refine o_lenc ?_
        | refine z_drawn0 env0_ok rfl rfl rfl ?_
        | refine o_bin (op := .add) rfl rfl rfl ?_
        | refine o_bin (op := .sub) rfl rfl rfl ?_
        | refine o_eqbt rfl rfl rfl ?_
        | refine o_eqbf rfl rfl rfl ?_
        | refine o_cmpt rfl rfl rfl ?_
        | refine o_cmpf rfl rfl rfl ?_
        | refine o_idxs rfl rfl (Int.natCast_nonneg i) ge rfl ?_)
      have ho := (closeL_eq init p q at_).trans (if_pos hq)
      exact u_end ⟨rfl, _, sub_ren [(0, 0, [.bool _, .bool _]), (1, 0, [.int .i64 _, .int .i64 _]), (2, 0, (init.map rowP).flatten ++ [.int .i64 p, .int .i64 at_])] rfl rfl (by simp) (.cons rfl rfl (ren_keep rfl) (.cons rfl rfl (ren_keep rfl) (.cons (by rw [← hsetB init p q at_ hn]; rfl) rfl (ren_keep (hM2 init p at_)) .nil))) (.cons rfl (.same rfl) (.cons rfl (.same rfl) (.cons rfl (.ms rfl) (.cons rfl (.mptr rfl) (.cons rfl (.mptr rfl) (.cons rfl (.same rfl) (.cons rfl (ren_eq (congrArg AV.bool ((decide_eq_false hat).symm.trans ((congrArg openL ho).trans (openL_eq init p at_)).symm)) rfl) (.cons rfl (ren_eq (congrArg (AV.int .i64) (wrap_succ i (by omega))) rfl) .nil)))))))), .some init p at_ ho⟩
  · cases on
    · repeat (first
        | refine z_seq ?_
        | refine z_region rfl ?_
        | refine o_nil ?_
        | refine u_seq ?_
        | refine u_blk ?_
        | refine z_block ?_
        | refine z_skip ?_
        | refine z_ct rfl ?_
        | refine z_cf rfl ?_
        | refine z_exit ?_
        | refine z_ret ?_
        | refine u_exit ?_
        | refine u_exit_seq ?_
        | refine u_exit_other rfl ?_
        | refine u_ret_seq ?_
        | refine u_ret_blk ?_
        | refine o_gy rfl ?_
        | refine o_gn rfl rfl ?_
        | refine o_gt rfl ?_
        | refine o_mov rfl ?_
        | refine o_load rfl rfl ?_
        | refine o_loadn rfl rfl rfl rfl ?_
        | refine o_store rfl rfl rfl rfl rfl rfl rfl ?_
        | refine o_faddrm rfl ?_
        | refine o_faddrv rfl rfl rfl ?_
        | refine o_idxarrm rfl rfl rfl ?_
        | refine o_alloc ?_
        | refine o_pickt rfl rfl ?_
        | refine o_pickf rfl rfl ?_
        | refine o_un rfl rfl ?_
        | refine o_len rfl rfl ?_
        | refine o_build rfl rfl ?_
        | refine o_bslice rfl rfl ?_
        | refine o_box rfl rfl ?_
        | refine o_minmax2 rfl rfl rfl ?_
        | refine o_field rfl rfl ?_
        | refine o_append rfl rfl rfl rfl ?_
        | refine o_extract rfl rfl ?_
        | refine o_lenc ?_
        | refine z_drawn0 env0_ok rfl rfl rfl ?_
        | refine o_bin (op := .add) rfl rfl rfl ?_
        | refine o_bin (op := .sub) rfl rfl rfl ?_
        | refine o_eqbt rfl rfl rfl ?_
        | refine o_eqbf rfl rfl rfl ?_
        | refine o_cmpt rfl rfl rfl ?_
        | refine o_cmpf rfl rfl rfl ?_
        | refine o_idxs rfl rfl (Int.natCast_nonneg i) ge rfl ?_)
      exact u_end ⟨rfl, _, sub_ren [(0, 0, [.bool _, .bool _]), (1, 0, [.int .i64 _, .int .i64 _]), (2, 0, (init.map rowP).flatten ++ [.int .i64 p, .int .i64 q])] rfl rfl (by simp) (.cons rfl rfl (ren_keep rfl) (.cons rfl rfl (ren_keep rfl) (.cons rfl rfl (ren_keep (hM2 init p q)) .nil))) (.cons rfl (.same rfl) (.cons rfl (.same rfl) (.cons rfl (.ms rfl) (.cons rfl (.mptr rfl) (.cons rfl (.mptr rfl) (.cons rfl (.same rfl) (.cons rfl (ren_eq (congrArg AV.bool (hon.trans (openL_eq init p q).symm)) rfl) (.cons rfl (ren_eq (congrArg (AV.int .i64) (wrap_succ i (by omega))) rfl) .nil)))))))), .some init p q rfl⟩
    · repeat (first
        | refine z_seq ?_
        | refine z_region rfl ?_
        | refine o_nil ?_
        | refine u_seq ?_
        | refine u_blk ?_
        | refine z_block ?_
        | refine z_skip ?_
        | refine z_ct rfl ?_
        | refine z_cf rfl ?_
        | refine z_exit ?_
        | refine z_ret ?_
        | refine u_exit ?_
        | refine u_exit_seq ?_
        | refine u_exit_other rfl ?_
        | refine u_ret_seq ?_
        | refine u_ret_blk ?_
        | refine o_gy rfl ?_
        | refine o_gn rfl rfl ?_
        | refine o_gt rfl ?_
        | refine o_mov rfl ?_
        | refine o_load rfl rfl ?_
        | refine o_loadn rfl rfl rfl rfl ?_
        | refine o_store rfl rfl rfl rfl rfl rfl rfl ?_
        | refine o_faddrm rfl ?_
        | refine o_faddrv rfl rfl rfl ?_
        | refine o_idxarrm rfl rfl rfl ?_
        | refine o_alloc ?_
        | refine o_pickt rfl rfl ?_
        | refine o_pickf rfl rfl ?_
        | refine o_un rfl rfl ?_
        | refine o_len rfl rfl ?_
        | refine o_build rfl rfl ?_
        | refine o_bslice rfl rfl ?_
        | refine o_box rfl rfl ?_
        | refine o_minmax2 rfl rfl rfl ?_
        | refine o_field rfl rfl ?_
        | refine o_append rfl rfl rfl rfl ?_
        | refine o_extract rfl rfl ?_
        | refine o_lenc ?_
        | refine z_drawn0 env0_ok rfl rfl rfl ?_
        | refine o_bin (op := .add) rfl rfl rfl ?_
        | refine o_bin (op := .sub) rfl rfl rfl ?_
        | refine o_eqbt rfl rfl rfl ?_
        | refine o_eqbf rfl rfl rfl ?_
        | refine o_cmpt rfl rfl rfl ?_
        | refine o_cmpf rfl rfl rfl ?_
        | refine o_idxs rfl rfl (Int.natCast_nonneg i) ge rfl ?_)
      exact u_end ⟨rfl, _, sub_ren [(0, 0, [.bool _, .bool _]), (1, 0, [.int .i64 _, .int .i64 _]), (2, 0, (init.map rowP).flatten ++ [.int .i64 p, .int .i64 q])] rfl rfl (by simp) (.cons rfl rfl (ren_keep rfl) (.cons rfl rfl (ren_keep rfl) (.cons rfl rfl (ren_keep (hM2 init p q)) .nil))) (.cons rfl (.same rfl) (.cons rfl (.same rfl) (.cons rfl (.ms rfl) (.cons rfl (.mptr rfl) (.cons rfl (.mptr rfl) (.cons rfl (.same rfl) (.cons rfl (ren_eq (congrArg AV.bool (hon.trans (openL_eq init p q).symm)) rfl) (.cons rfl (ren_eq (congrArg (AV.int .i64) (wrap_succ i (by omega))) rfl) .nil)))))))), .some init p q rfl⟩
  · cases on <;> cases rdy
    · repeat (first
        | refine z_seq ?_
        | refine z_region rfl ?_
        | refine o_nil ?_
        | refine u_seq ?_
        | refine u_blk ?_
        | refine z_block ?_
        | refine z_skip ?_
        | refine z_ct rfl ?_
        | refine z_cf rfl ?_
        | refine z_exit ?_
        | refine z_ret ?_
        | refine u_exit ?_
        | refine u_exit_seq ?_
        | refine u_exit_other rfl ?_
        | refine u_ret_seq ?_
        | refine u_ret_blk ?_
        | refine o_gy rfl ?_
        | refine o_gn rfl rfl ?_
        | refine o_gt rfl ?_
        | refine o_mov rfl ?_
        | refine o_load rfl rfl ?_
        | refine o_loadn rfl rfl rfl rfl ?_
        | refine o_store rfl rfl rfl rfl rfl rfl rfl ?_
        | refine o_faddrm rfl ?_
        | refine o_faddrv rfl rfl rfl ?_
        | refine o_idxarrm rfl rfl rfl ?_
        | refine o_alloc ?_
        | refine o_pickt rfl rfl ?_
        | refine o_pickf rfl rfl ?_
        | refine o_un rfl rfl ?_
        | refine o_len rfl rfl ?_
        | refine o_build rfl rfl ?_
        | refine o_bslice rfl rfl ?_
        | refine o_box rfl rfl ?_
        | refine o_minmax2 rfl rfl rfl ?_
        | refine o_field rfl rfl ?_
        | refine o_append rfl rfl rfl rfl ?_
        | refine o_extract rfl rfl ?_
        | refine o_lenc ?_
        | refine z_drawn0 env0_ok rfl rfl rfl ?_
        | refine o_bin (op := .add) rfl rfl rfl ?_
        | refine o_bin (op := .sub) rfl rfl rfl ?_
        | refine o_eqbt rfl rfl rfl ?_
        | refine o_eqbf rfl rfl rfl ?_
        | refine o_cmpt rfl rfl rfl ?_
        | refine o_cmpf rfl rfl rfl ?_
        | refine o_idxs rfl rfl (Int.natCast_nonneg i) ge rfl ?_)
      exact u_end ⟨rfl, _, sub_ren [(0, 0, [.bool _, .bool _]), (1, 0, [.int .i64 _, .int .i64 _]), (2, 0, (init.map rowP).flatten ++ [.int .i64 p, .int .i64 q])] rfl rfl (by simp) (.cons rfl rfl (ren_keep rfl) (.cons rfl rfl (ren_keep rfl) (.cons rfl rfl (ren_keep (hM2 init p q)) .nil))) (.cons rfl (.same rfl) (.cons rfl (.same rfl) (.cons rfl (.ms rfl) (.cons rfl (.mptr rfl) (.cons rfl (.mptr rfl) (.cons rfl (.same rfl) (.cons rfl (ren_eq (congrArg AV.bool (hon.trans (openL_eq init p q).symm)) rfl) (.cons rfl (ren_eq (congrArg (AV.int .i64) (wrap_succ i (by omega))) rfl) .nil)))))))), .some init p q rfl⟩
    · repeat (first
        | refine z_seq ?_
        | refine z_region rfl ?_
        | refine o_nil ?_
        | refine u_seq ?_
        | refine u_blk ?_
        | refine z_block ?_
        | refine z_skip ?_
        | refine z_ct rfl ?_
        | refine z_cf rfl ?_
        | refine z_exit ?_
        | refine z_ret ?_
        | refine u_exit ?_
        | refine u_exit_seq ?_
        | refine u_exit_other rfl ?_
        | refine u_ret_seq ?_
        | refine u_ret_blk ?_
        | refine o_gy rfl ?_
        | refine o_gn rfl rfl ?_
        | refine o_gt rfl ?_
        | refine o_mov rfl ?_
        | refine o_load rfl rfl ?_
        | refine o_loadn rfl rfl rfl rfl ?_
        | refine o_store rfl rfl rfl rfl rfl rfl rfl ?_
        | refine o_faddrm rfl ?_
        | refine o_faddrv rfl rfl rfl ?_
        | refine o_idxarrm rfl rfl rfl ?_
        | refine o_alloc ?_
        | refine o_pickt rfl rfl ?_
        | refine o_pickf rfl rfl ?_
        | refine o_un rfl rfl ?_
        | refine o_len rfl rfl ?_
        | refine o_build rfl rfl ?_
        | refine o_bslice rfl rfl ?_
        | refine o_box rfl rfl ?_
        | refine o_minmax2 rfl rfl rfl ?_
        | refine o_field rfl rfl ?_
        | refine o_append rfl rfl rfl rfl ?_
        | refine o_extract rfl rfl ?_
        | refine o_lenc ?_
        | refine z_drawn0 env0_ok rfl rfl rfl ?_
        | refine o_bin (op := .add) rfl rfl rfl ?_
        | refine o_bin (op := .sub) rfl rfl rfl ?_
        | refine o_eqbt rfl rfl rfl ?_
        | refine o_eqbf rfl rfl rfl ?_
        | refine o_cmpt rfl rfl rfl ?_
        | refine o_cmpf rfl rfl rfl ?_
        | refine o_idxs rfl rfl (Int.natCast_nonneg i) ge rfl ?_)
      refine o_cmp rfl rfl rfl (fun h => ?_) fun h => ?_
      · have hle := of_decide_eq_true h
        repeat (first
          | refine z_seq ?_
          | refine z_region rfl ?_
          | refine o_nil ?_
          | refine u_seq ?_
          | refine u_blk ?_
          | refine z_block ?_
          | refine z_skip ?_
          | refine z_ct rfl ?_
          | refine z_cf rfl ?_
          | refine z_exit ?_
          | refine z_ret ?_
          | refine u_exit ?_
          | refine u_exit_seq ?_
          | refine u_exit_other rfl ?_
          | refine u_ret_seq ?_
          | refine u_ret_blk ?_
          | refine o_gy rfl ?_
          | refine o_gn rfl rfl ?_
          | refine o_gt rfl ?_
          | refine o_mov rfl ?_
          | refine o_load rfl rfl ?_
          | refine o_loadn rfl rfl rfl rfl ?_
          | refine o_store rfl rfl rfl rfl rfl rfl rfl ?_
          | refine o_faddrm rfl ?_
          | refine o_faddrv rfl rfl rfl ?_
          | refine o_idxarrm rfl rfl rfl ?_
          | refine o_alloc ?_
          | refine o_pickt rfl rfl ?_
          | refine o_pickf rfl rfl ?_
          | refine o_un rfl rfl ?_
          | refine o_len rfl rfl ?_
          | refine o_build rfl rfl ?_
          | refine o_bslice rfl rfl ?_
          | refine o_box rfl rfl ?_
          | refine o_minmax2 rfl rfl rfl ?_
          | refine o_field rfl rfl ?_
          | refine o_append rfl rfl rfl rfl ?_
          | refine o_extract rfl rfl ?_
          | refine o_lenc ?_
          | refine z_drawn0 env0_ok rfl rfl rfl ?_
          | refine o_bin (op := .add) rfl rfl rfl ?_
          | refine o_bin (op := .sub) rfl rfl rfl ?_
          | refine o_eqbt rfl rfl rfl ?_
          | refine o_eqbf rfl rfl rfl ?_
          | refine o_cmpt rfl rfl rfl ?_
          | refine o_cmpf rfl rfl rfl ?_
          | refine o_idxs rfl rfl (Int.natCast_nonneg i) ge rfl ?_)
        refine o_append_ms [rowP (at_, -1099511627776)] rfl rfl rfl (by simp) rfl (by decide) rfl (by rw [List.length_append, flat_length (sz := 2) (fun x hx => by obtain ⟨_, _, rfl⟩ := List.mem_map.1 hx; rfl), List.length_map]; simp; omega) (by simp; omega) ?_
        repeat (first
          | refine z_seq ?_
          | refine z_region rfl ?_
          | refine o_nil ?_
          | refine u_seq ?_
          | refine u_blk ?_
          | refine z_block ?_
          | refine z_skip ?_
          | refine z_ct rfl ?_
          | refine z_cf rfl ?_
          | refine z_exit ?_
          | refine z_ret ?_
          | refine u_exit ?_
          | refine u_exit_seq ?_
          | refine u_exit_other rfl ?_
          | refine u_ret_seq ?_
          | refine u_ret_blk ?_
          | refine o_gy rfl ?_
          | refine o_gn rfl rfl ?_
          | refine o_gt rfl ?_
          | refine o_mov rfl ?_
          | refine o_load rfl rfl ?_
          | refine o_loadn rfl rfl rfl rfl ?_
          | refine o_store rfl rfl rfl rfl rfl rfl rfl ?_
          | refine o_faddrm rfl ?_
          | refine o_faddrv rfl rfl rfl ?_
          | refine o_idxarrm rfl rfl rfl ?_
          | refine o_alloc ?_
          | refine o_pickt rfl rfl ?_
          | refine o_pickf rfl rfl ?_
          | refine o_un rfl rfl ?_
          | refine o_len rfl rfl ?_
          | refine o_build rfl rfl ?_
          | refine o_bslice rfl rfl ?_
          | refine o_box rfl rfl ?_
          | refine o_minmax2 rfl rfl rfl ?_
          | refine o_field rfl rfl ?_
          | refine o_append rfl rfl rfl rfl ?_
          | refine o_extract rfl rfl ?_
          | refine o_lenc ?_
          | refine z_drawn0 env0_ok rfl rfl rfl ?_
          | refine o_bin (op := .add) rfl rfl rfl ?_
          | refine o_bin (op := .sub) rfl rfl rfl ?_
          | refine o_eqbt rfl rfl rfl ?_
          | refine o_eqbf rfl rfl rfl ?_
          | refine o_cmpt rfl rfl rfl ?_
          | refine o_cmpf rfl rfl rfl ?_
          | refine o_idxs rfl rfl (Int.natCast_nonneg i) ge rfl ?_)
        have hlen : init.length + 1 + 1 = (init ++ [(p, q)]).length + 1 := by simp
        have hcs : ((init.map rowP).flatten ++ [AV.int .i64 p, .int .i64 q]) ++ [rowP (at_, -1099511627776)].flatten = ((init ++ [(p, q)]).map rowP).flatten ++ [AV.int .i64 at_, .int .i64 (-1099511627776)] := by simp [rowP]
        have ho : (both w (init ++ [(p, q)]) _ _ at_ true).out = (init ++ [(p, q)]) ++ [(at_, -1099511627776)] := if_pos ⟨rfl, hle⟩
        refine u_end ⟨rfl, _, ?_, .some (init ++ [(p, q)]) at_ (-1099511627776) ho⟩
        rw [← hlen, ← hcs]
        exact sub_ren [(0, 0, [.bool _, .bool _]), (1, 0, [.int .i64 _, .int .i64 _]), (2, 2, ((init.map rowP).flatten ++ [AV.int .i64 p, .int .i64 q]) ++ [rowP (at_, -1099511627776)].flatten)] rfl rfl (by simp) (.cons rfl rfl (ren_keep rfl) (.cons rfl rfl (ren_keep rfl) (.cons rfl rfl (ren_keep (hasML_append (hM2 init p q) rfl)) .nil))) (.cons rfl (.same rfl) (.cons rfl (.same rfl) (.cons rfl (.ms rfl) (.cons rfl (.mptr rfl) (.cons rfl (.mptr rfl) (.cons rfl (.same rfl) (.cons rfl (ren_eq (congrArg AV.bool ((decide_eq_true rfl).symm.trans ((congrArg openL ho).trans (openL_eq (init ++ [(p, q)]) at_ (-1099511627776))).symm)) rfl) (.cons rfl (ren_eq (congrArg (AV.int .i64) (wrap_succ i (by omega))) rfl) .nil))))))))
      · have hle := of_decide_eq_false h
        repeat (first
          | refine z_seq ?_
          | refine z_region rfl ?_
          | refine o_nil ?_
          | refine u_seq ?_
          | refine u_blk ?_
          | refine z_block ?_
          | refine z_skip ?_
          | refine z_ct rfl ?_
          | refine z_cf rfl ?_
          | refine z_exit ?_
          | refine z_ret ?_
          | refine u_exit ?_
          | refine u_exit_seq ?_
          | refine u_exit_other rfl ?_
          | refine u_ret_seq ?_
          | refine u_ret_blk ?_
          | refine o_gy rfl ?_
          | refine o_gn rfl rfl ?_
          | refine o_gt rfl ?_
          | refine o_mov rfl ?_
          | refine o_load rfl rfl ?_
          | refine o_loadn rfl rfl rfl rfl ?_
          | refine o_store rfl rfl rfl rfl rfl rfl rfl ?_
          | refine o_faddrm rfl ?_
          | refine o_faddrv rfl rfl rfl ?_
          | refine o_idxarrm rfl rfl rfl ?_
          | refine o_alloc ?_
          | refine o_pickt rfl rfl ?_
          | refine o_pickf rfl rfl ?_
          | refine o_un rfl rfl ?_
          | refine o_len rfl rfl ?_
          | refine o_build rfl rfl ?_
          | refine o_bslice rfl rfl ?_
          | refine o_box rfl rfl ?_
          | refine o_minmax2 rfl rfl rfl ?_
          | refine o_field rfl rfl ?_
          | refine o_append rfl rfl rfl rfl ?_
          | refine o_extract rfl rfl ?_
          | refine o_lenc ?_
          | refine z_drawn0 env0_ok rfl rfl rfl ?_
          | refine o_bin (op := .add) rfl rfl rfl ?_
          | refine o_bin (op := .sub) rfl rfl rfl ?_
          | refine o_eqbt rfl rfl rfl ?_
          | refine o_eqbf rfl rfl rfl ?_
          | refine o_cmpt rfl rfl rfl ?_
          | refine o_cmpf rfl rfl rfl ?_
          | refine o_idxs rfl rfl (Int.natCast_nonneg i) ge rfl ?_)
        have ho : (both w (init ++ [(p, q)]) _ _ at_ true).out = init ++ [(p, q)] := if_neg fun x => hle x.2
        exact u_end ⟨rfl, _, sub_ren [(0, 0, [.bool _, .bool _]), (1, 0, [.int .i64 _, .int .i64 _]), (2, 0, (init.map rowP).flatten ++ [.int .i64 p, .int .i64 q])] rfl rfl (by simp) (.cons rfl rfl (ren_keep rfl) (.cons rfl rfl (ren_keep rfl) (.cons rfl rfl (ren_keep (hM2 init p q)) .nil))) (.cons rfl (.same rfl) (.cons rfl (.same rfl) (.cons rfl (.ms rfl) (.cons rfl (.mptr rfl) (.cons rfl (.mptr rfl) (.cons rfl (.same rfl) (.cons rfl (ren_eq (congrArg AV.bool (hon.trans ((congrArg openL ho).trans (openL_eq init p q)).symm)) rfl) (.cons rfl (ren_eq (congrArg (AV.int .i64) (wrap_succ i (by omega))) rfl) .nil)))))))), .some init p q ho⟩
    · repeat (first
        | refine z_seq ?_
        | refine z_region rfl ?_
        | refine o_nil ?_
        | refine u_seq ?_
        | refine u_blk ?_
        | refine z_block ?_
        | refine z_skip ?_
        | refine z_ct rfl ?_
        | refine z_cf rfl ?_
        | refine z_exit ?_
        | refine z_ret ?_
        | refine u_exit ?_
        | refine u_exit_seq ?_
        | refine u_exit_other rfl ?_
        | refine u_ret_seq ?_
        | refine u_ret_blk ?_
        | refine o_gy rfl ?_
        | refine o_gn rfl rfl ?_
        | refine o_gt rfl ?_
        | refine o_mov rfl ?_
        | refine o_load rfl rfl ?_
        | refine o_loadn rfl rfl rfl rfl ?_
        | refine o_store rfl rfl rfl rfl rfl rfl rfl ?_
        | refine o_faddrm rfl ?_
        | refine o_faddrv rfl rfl rfl ?_
        | refine o_idxarrm rfl rfl rfl ?_
        | refine o_alloc ?_
        | refine o_pickt rfl rfl ?_
        | refine o_pickf rfl rfl ?_
        | refine o_un rfl rfl ?_
        | refine o_len rfl rfl ?_
        | refine o_build rfl rfl ?_
        | refine o_bslice rfl rfl ?_
        | refine o_box rfl rfl ?_
        | refine o_minmax2 rfl rfl rfl ?_
        | refine o_field rfl rfl ?_
        | refine o_append rfl rfl rfl rfl ?_
        | refine o_extract rfl rfl ?_
        | refine o_lenc ?_
        | refine z_drawn0 env0_ok rfl rfl rfl ?_
        | refine o_bin (op := .add) rfl rfl rfl ?_
        | refine o_bin (op := .sub) rfl rfl rfl ?_
        | refine o_eqbt rfl rfl rfl ?_
        | refine o_eqbf rfl rfl rfl ?_
        | refine o_cmpt rfl rfl rfl ?_
        | refine o_cmpf rfl rfl rfl ?_
        | refine o_idxs rfl rfl (Int.natCast_nonneg i) ge rfl ?_)
      exact u_end ⟨rfl, _, sub_ren [(0, 0, [.bool _, .bool _]), (1, 0, [.int .i64 _, .int .i64 _]), (2, 0, (init.map rowP).flatten ++ [.int .i64 p, .int .i64 q])] rfl rfl (by simp) (.cons rfl rfl (ren_keep rfl) (.cons rfl rfl (ren_keep rfl) (.cons rfl rfl (ren_keep (hM2 init p q)) .nil))) (.cons rfl (.same rfl) (.cons rfl (.same rfl) (.cons rfl (.ms rfl) (.cons rfl (.mptr rfl) (.cons rfl (.mptr rfl) (.cons rfl (.same rfl) (.cons rfl (ren_eq (congrArg AV.bool (hon.trans (openL_eq init p q).symm)) rfl) (.cons rfl (ren_eq (congrArg (AV.int .i64) (wrap_succ i (by omega))) rfl) .nil)))))))), .some init p q rfl⟩
    · repeat (first
        | refine z_seq ?_
        | refine z_region rfl ?_
        | refine o_nil ?_
        | refine u_seq ?_
        | refine u_blk ?_
        | refine z_block ?_
        | refine z_skip ?_
        | refine z_ct rfl ?_
        | refine z_cf rfl ?_
        | refine z_exit ?_
        | refine z_ret ?_
        | refine u_exit ?_
        | refine u_exit_seq ?_
        | refine u_exit_other rfl ?_
        | refine u_ret_seq ?_
        | refine u_ret_blk ?_
        | refine o_gy rfl ?_
        | refine o_gn rfl rfl ?_
        | refine o_gt rfl ?_
        | refine o_mov rfl ?_
        | refine o_load rfl rfl ?_
        | refine o_loadn rfl rfl rfl rfl ?_
        | refine o_store rfl rfl rfl rfl rfl rfl rfl ?_
        | refine o_faddrm rfl ?_
        | refine o_faddrv rfl rfl rfl ?_
        | refine o_idxarrm rfl rfl rfl ?_
        | refine o_alloc ?_
        | refine o_pickt rfl rfl ?_
        | refine o_pickf rfl rfl ?_
        | refine o_un rfl rfl ?_
        | refine o_len rfl rfl ?_
        | refine o_build rfl rfl ?_
        | refine o_bslice rfl rfl ?_
        | refine o_box rfl rfl ?_
        | refine o_minmax2 rfl rfl rfl ?_
        | refine o_field rfl rfl ?_
        | refine o_append rfl rfl rfl rfl ?_
        | refine o_extract rfl rfl ?_
        | refine o_lenc ?_
        | refine z_drawn0 env0_ok rfl rfl rfl ?_
        | refine o_bin (op := .add) rfl rfl rfl ?_
        | refine o_bin (op := .sub) rfl rfl rfl ?_
        | refine o_eqbt rfl rfl rfl ?_
        | refine o_eqbf rfl rfl rfl ?_
        | refine o_cmpt rfl rfl rfl ?_
        | refine o_cmpf rfl rfl rfl ?_
        | refine o_idxs rfl rfl (Int.natCast_nonneg i) ge rfl ?_)
      refine o_cmp rfl rfl rfl (fun h => ?_) fun h => ?_
      · have hle := of_decide_eq_true h
        repeat (first
          | refine z_seq ?_
          | refine z_region rfl ?_
          | refine o_nil ?_
          | refine u_seq ?_
          | refine u_blk ?_
          | refine z_block ?_
          | refine z_skip ?_
          | refine z_ct rfl ?_
          | refine z_cf rfl ?_
          | refine z_exit ?_
          | refine z_ret ?_
          | refine u_exit ?_
          | refine u_exit_seq ?_
          | refine u_exit_other rfl ?_
          | refine u_ret_seq ?_
          | refine u_ret_blk ?_
          | refine o_gy rfl ?_
          | refine o_gn rfl rfl ?_
          | refine o_gt rfl ?_
          | refine o_mov rfl ?_
          | refine o_load rfl rfl ?_
          | refine o_loadn rfl rfl rfl rfl ?_
          | refine o_store rfl rfl rfl rfl rfl rfl rfl ?_
          | refine o_faddrm rfl ?_
          | refine o_faddrv rfl rfl rfl ?_
          | refine o_idxarrm rfl rfl rfl ?_
          | refine o_alloc ?_
          | refine o_pickt rfl rfl ?_
          | refine o_pickf rfl rfl ?_
          | refine o_un rfl rfl ?_
          | refine o_len rfl rfl ?_
          | refine o_build rfl rfl ?_
          | refine o_bslice rfl rfl ?_
          | refine o_box rfl rfl ?_
          | refine o_minmax2 rfl rfl rfl ?_
          | refine o_field rfl rfl ?_
          | refine o_append rfl rfl rfl rfl ?_
          | refine o_extract rfl rfl ?_
          | refine o_lenc ?_
          | refine z_drawn0 env0_ok rfl rfl rfl ?_
          | refine o_bin (op := .add) rfl rfl rfl ?_
          | refine o_bin (op := .sub) rfl rfl rfl ?_
          | refine o_eqbt rfl rfl rfl ?_
          | refine o_eqbf rfl rfl rfl ?_
          | refine o_cmpt rfl rfl rfl ?_
          | refine o_cmpf rfl rfl rfl ?_
          | refine o_idxs rfl rfl (Int.natCast_nonneg i) ge rfl ?_)
        refine o_append_ms [rowP (at_, -1099511627776)] rfl rfl rfl (by simp) rfl (by decide) rfl (by rw [List.length_append, flat_length (sz := 2) (fun x hx => by obtain ⟨_, _, rfl⟩ := List.mem_map.1 hx; rfl), List.length_map]; simp; omega) (by simp; omega) ?_
        repeat (first
          | refine z_seq ?_
          | refine z_region rfl ?_
          | refine o_nil ?_
          | refine u_seq ?_
          | refine u_blk ?_
          | refine z_block ?_
          | refine z_skip ?_
          | refine z_ct rfl ?_
          | refine z_cf rfl ?_
          | refine z_exit ?_
          | refine z_ret ?_
          | refine u_exit ?_
          | refine u_exit_seq ?_
          | refine u_exit_other rfl ?_
          | refine u_ret_seq ?_
          | refine u_ret_blk ?_
          | refine o_gy rfl ?_
          | refine o_gn rfl rfl ?_
          | refine o_gt rfl ?_
          | refine o_mov rfl ?_
          | refine o_load rfl rfl ?_
          | refine o_loadn rfl rfl rfl rfl ?_
          | refine o_store rfl rfl rfl rfl rfl rfl rfl ?_
          | refine o_faddrm rfl ?_
          | refine o_faddrv rfl rfl rfl ?_
          | refine o_idxarrm rfl rfl rfl ?_
          | refine o_alloc ?_
          | refine o_pickt rfl rfl ?_
          | refine o_pickf rfl rfl ?_
          | refine o_un rfl rfl ?_
          | refine o_len rfl rfl ?_
          | refine o_build rfl rfl ?_
          | refine o_bslice rfl rfl ?_
          | refine o_box rfl rfl ?_
          | refine o_minmax2 rfl rfl rfl ?_
          | refine o_field rfl rfl ?_
          | refine o_append rfl rfl rfl rfl ?_
          | refine o_extract rfl rfl ?_
          | refine o_lenc ?_
          | refine z_drawn0 env0_ok rfl rfl rfl ?_
          | refine o_bin (op := .add) rfl rfl rfl ?_
          | refine o_bin (op := .sub) rfl rfl rfl ?_
          | refine o_eqbt rfl rfl rfl ?_
          | refine o_eqbf rfl rfl rfl ?_
          | refine o_cmpt rfl rfl rfl ?_
          | refine o_cmpf rfl rfl rfl ?_
          | refine o_idxs rfl rfl (Int.natCast_nonneg i) ge rfl ?_)
        have hlen : init.length + 1 + 1 = (init ++ [(p, q)]).length + 1 := by simp
        have hcs : ((init.map rowP).flatten ++ [AV.int .i64 p, .int .i64 q]) ++ [rowP (at_, -1099511627776)].flatten = ((init ++ [(p, q)]).map rowP).flatten ++ [AV.int .i64 at_, .int .i64 (-1099511627776)] := by simp [rowP]
        have ho : (both w (init ++ [(p, q)]) _ _ at_ true).out = (init ++ [(p, q)]) ++ [(at_, -1099511627776)] := if_pos ⟨rfl, hle⟩
        refine u_end ⟨rfl, _, ?_, .some (init ++ [(p, q)]) at_ (-1099511627776) ho⟩
        rw [← hlen, ← hcs]
        exact sub_ren [(0, 0, [.bool _, .bool _]), (1, 0, [.int .i64 _, .int .i64 _]), (2, 2, ((init.map rowP).flatten ++ [AV.int .i64 p, .int .i64 q]) ++ [rowP (at_, -1099511627776)].flatten)] rfl rfl (by simp) (.cons rfl rfl (ren_keep rfl) (.cons rfl rfl (ren_keep rfl) (.cons rfl rfl (ren_keep (hasML_append (hM2 init p q) rfl)) .nil))) (.cons rfl (.same rfl) (.cons rfl (.same rfl) (.cons rfl (.ms rfl) (.cons rfl (.mptr rfl) (.cons rfl (.mptr rfl) (.cons rfl (.same rfl) (.cons rfl (ren_eq (congrArg AV.bool ((decide_eq_true rfl).symm.trans ((congrArg openL ho).trans (openL_eq (init ++ [(p, q)]) at_ (-1099511627776))).symm)) rfl) (.cons rfl (ren_eq (congrArg (AV.int .i64) (wrap_succ i (by omega))) rfl) .nil))))))))
      · have hle := of_decide_eq_false h
        repeat (first
          | refine z_seq ?_
          | refine z_region rfl ?_
          | refine o_nil ?_
          | refine u_seq ?_
          | refine u_blk ?_
          | refine z_block ?_
          | refine z_skip ?_
          | refine z_ct rfl ?_
          | refine z_cf rfl ?_
          | refine z_exit ?_
          | refine z_ret ?_
          | refine u_exit ?_
          | refine u_exit_seq ?_
          | refine u_exit_other rfl ?_
          | refine u_ret_seq ?_
          | refine u_ret_blk ?_
          | refine o_gy rfl ?_
          | refine o_gn rfl rfl ?_
          | refine o_gt rfl ?_
          | refine o_mov rfl ?_
          | refine o_load rfl rfl ?_
          | refine o_loadn rfl rfl rfl rfl ?_
          | refine o_store rfl rfl rfl rfl rfl rfl rfl ?_
          | refine o_faddrm rfl ?_
          | refine o_faddrv rfl rfl rfl ?_
          | refine o_idxarrm rfl rfl rfl ?_
          | refine o_alloc ?_
          | refine o_pickt rfl rfl ?_
          | refine o_pickf rfl rfl ?_
          | refine o_un rfl rfl ?_
          | refine o_len rfl rfl ?_
          | refine o_build rfl rfl ?_
          | refine o_bslice rfl rfl ?_
          | refine o_box rfl rfl ?_
          | refine o_minmax2 rfl rfl rfl ?_
          | refine o_field rfl rfl ?_
          | refine o_append rfl rfl rfl rfl ?_
          | refine o_extract rfl rfl ?_
          | refine o_lenc ?_
          | refine z_drawn0 env0_ok rfl rfl rfl ?_
          | refine o_bin (op := .add) rfl rfl rfl ?_
          | refine o_bin (op := .sub) rfl rfl rfl ?_
          | refine o_eqbt rfl rfl rfl ?_
          | refine o_eqbf rfl rfl rfl ?_
          | refine o_cmpt rfl rfl rfl ?_
          | refine o_cmpf rfl rfl rfl ?_
          | refine o_idxs rfl rfl (Int.natCast_nonneg i) ge rfl ?_)
        have ho : (both w (init ++ [(p, q)]) _ _ at_ true).out = init ++ [(p, q)] := if_neg fun x => hle x.2
        exact u_end ⟨rfl, _, sub_ren [(0, 0, [.bool _, .bool _]), (1, 0, [.int .i64 _, .int .i64 _]), (2, 0, (init.map rowP).flatten ++ [.int .i64 p, .int .i64 q])] rfl rfl (by simp) (.cons rfl rfl (ren_keep rfl) (.cons rfl rfl (ren_keep rfl) (.cons rfl rfl (ren_keep (hM2 init p q)) .nil))) (.cons rfl (.same rfl) (.cons rfl (.same rfl) (.cons rfl (.ms rfl) (.cons rfl (.mptr rfl) (.cons rfl (.mptr rfl) (.cons rfl (.same rfl) (.cons rfl (ren_eq (congrArg AV.bool (hon.trans ((congrArg openL ho).trans (openL_eq init p q)).symm)) rfl) (.cons rfl (ren_eq (congrArg (AV.int .i64) (wrap_succ i (by omega))) rfl) .nil)))))))), .some init p q ho⟩
  · cases on
    · have hq : ¬ q = -1099511627776 := of_decide_eq_false hon.symm
      repeat (first
        | refine z_seq ?_
        | refine z_region rfl ?_
        | refine o_nil ?_
        | refine u_seq ?_
        | refine u_blk ?_
        | refine z_block ?_
        | refine z_skip ?_
        | refine z_ct rfl ?_
        | refine z_cf rfl ?_
        | refine z_exit ?_
        | refine z_ret ?_
        | refine u_exit ?_
        | refine u_exit_seq ?_
        | refine u_exit_other rfl ?_
        | refine u_ret_seq ?_
        | refine u_ret_blk ?_
        | refine o_gy rfl ?_
        | refine o_gn rfl rfl ?_
        | refine o_gt rfl ?_
        | refine o_mov rfl ?_
        | refine o_load rfl rfl ?_
        | refine o_loadn rfl rfl rfl rfl ?_
        | refine o_store rfl rfl rfl rfl rfl rfl rfl ?_
        | refine o_faddrm rfl ?_
        | refine o_faddrv rfl rfl rfl ?_
        | refine o_idxarrm rfl rfl rfl ?_
        | refine o_alloc ?_
        | refine o_pickt rfl rfl ?_
        | refine o_pickf rfl rfl ?_
        | refine o_un rfl rfl ?_
        | refine o_len rfl rfl ?_
        | refine o_build rfl rfl ?_
        | refine o_bslice rfl rfl ?_
        | refine o_box rfl rfl ?_
        | refine o_minmax2 rfl rfl rfl ?_
        | refine o_field rfl rfl ?_
        | refine o_append rfl rfl rfl rfl ?_
        | refine o_extract rfl rfl ?_
        | refine o_lenc ?_
        | refine z_drawn0 env0_ok rfl rfl rfl ?_
        | refine o_bin (op := .add) rfl rfl rfl ?_
        | refine o_bin (op := .sub) rfl rfl rfl ?_
        | refine o_eqbt rfl rfl rfl ?_
        | refine o_eqbf rfl rfl rfl ?_
        | refine o_cmpt rfl rfl rfl ?_
        | refine o_cmpf rfl rfl rfl ?_
        | refine o_idxs rfl rfl (Int.natCast_nonneg i) ge rfl ?_)
      have ho := (closeL_eq init p q at_).trans (if_neg hq)
      exact u_end ⟨rfl, _, sub_ren [(0, 0, [.bool _, .bool _]), (1, 0, [.int .i64 _, .int .i64 _]), (2, 0, (init.map rowP).flatten ++ [.int .i64 p, .int .i64 q])] rfl rfl (by simp) (.cons rfl rfl (ren_keep rfl) (.cons rfl rfl (ren_keep rfl) (.cons rfl rfl (ren_keep (hM2 init p q)) .nil))) (.cons rfl (.same rfl) (.cons rfl (.same rfl) (.cons rfl (.ms rfl) (.cons rfl (.mptr rfl) (.cons rfl (.mptr rfl) (.cons rfl (.same rfl) (.cons rfl (ren_eq (congrArg AV.bool (hon.trans ((congrArg openL ho).trans (openL_eq init p q)).symm)) rfl) (.cons rfl (ren_eq (congrArg (AV.int .i64) (wrap_succ i (by omega))) rfl) .nil)))))))), .some init p q ho⟩
    · have hq : q = -1099511627776 := of_decide_eq_true hon.symm
      repeat (first
        | refine z_seq ?_
        | refine z_region rfl ?_
        | refine o_nil ?_
        | refine u_seq ?_
        | refine u_blk ?_
        | refine z_block ?_
        | refine z_skip ?_
        | refine z_ct rfl ?_
        | refine z_cf rfl ?_
        | refine z_exit ?_
        | refine z_ret ?_
        | refine u_exit ?_
        | refine u_exit_seq ?_
        | refine u_exit_other rfl ?_
        | refine u_ret_seq ?_
        | refine u_ret_blk ?_
        | refine o_gy rfl ?_
        | refine o_gn rfl rfl ?_
        | refine o_gt rfl ?_
        | refine o_mov rfl ?_
        | refine o_load rfl rfl ?_
        | refine o_loadn rfl rfl rfl rfl ?_
        | refine o_store rfl rfl rfl rfl rfl rfl rfl ?_
        | refine o_faddrm rfl ?_
        | refine o_faddrv rfl rfl rfl ?_
        | refine o_idxarrm rfl rfl rfl ?_
        | refine o_alloc ?_
        | refine o_pickt rfl rfl ?_
        | refine o_pickf rfl rfl ?_
        | refine o_un rfl rfl ?_
        | refine o_len rfl rfl ?_
        | refine o_build rfl rfl ?_
        | refine o_bslice rfl rfl ?_
        | refine o_box rfl rfl ?_
        | refine o_minmax2 rfl rfl rfl ?_
        | refine o_field rfl rfl ?_
        | refine o_append rfl rfl rfl rfl ?_
        | refine o_extract rfl rfl ?_
        | refine o_lenc ?_
        | refine z_drawn0 env0_ok rfl rfl rfl ?_
        | refine o_bin (op := .add) rfl rfl rfl ?_
        | refine o_bin (op := .sub) rfl rfl rfl ?_
        | refine o_eqbt rfl rfl rfl ?_
        | refine o_eqbf rfl rfl rfl ?_
        | refine o_cmpt rfl rfl rfl ?_
        | refine o_cmpf rfl rfl rfl ?_
        | refine o_idxs rfl rfl (Int.natCast_nonneg i) ge rfl ?_)
      refine o_idxsm rfl rfl h0 hlt ?_
      repeat (first
        | refine z_seq ?_
        | refine z_region rfl ?_
        | refine o_nil ?_
        | refine u_seq ?_
        | refine u_blk ?_
        | refine z_block ?_
        | refine z_skip ?_
        | refine z_ct rfl ?_
        | refine z_cf rfl ?_
        | refine z_exit ?_
        | refine z_ret ?_
        | refine u_exit ?_
        | refine u_exit_seq ?_
        | refine u_exit_other rfl ?_
        | refine u_ret_seq ?_
        | refine u_ret_blk ?_
        | refine o_gy rfl ?_
        | refine o_gn rfl rfl ?_
        | refine o_gt rfl ?_
        | refine o_mov rfl ?_
        | refine o_load rfl rfl ?_
        | refine o_loadn rfl rfl rfl rfl ?_
        | refine o_store rfl rfl rfl rfl rfl rfl rfl ?_
        | refine o_faddrm rfl ?_
        | refine o_faddrv rfl rfl rfl ?_
        | refine o_idxarrm rfl rfl rfl ?_
        | refine o_alloc ?_
        | refine o_pickt rfl rfl ?_
        | refine o_pickf rfl rfl ?_
        | refine o_un rfl rfl ?_
        | refine o_len rfl rfl ?_
        | refine o_build rfl rfl ?_
        | refine o_bslice rfl rfl ?_
        | refine o_box rfl rfl ?_
        | refine o_minmax2 rfl rfl rfl ?_
        | refine o_field rfl rfl ?_
        | refine o_append rfl rfl rfl rfl ?_
        | refine o_extract rfl rfl ?_
        | refine o_lenc ?_
        | refine z_drawn0 env0_ok rfl rfl rfl ?_
        | refine o_bin (op := .add) rfl rfl rfl ?_
        | refine o_bin (op := .sub) rfl rfl rfl ?_
        | refine o_eqbt rfl rfl rfl ?_
        | refine o_eqbf rfl rfl rfl ?_
        | refine o_cmpt rfl rfl rfl ?_
        | refine o_cmpf rfl rfl rfl ?_
        | refine o_idxs rfl rfl (Int.natCast_nonneg i) ge rfl ?_)
      refine o_store rfl rfl rfl rfl rfl (hleB init p q hn) rfl ?_
      repeat (first
        | refine z_seq ?_
        | refine z_region rfl ?_
        | refine o_nil ?_
        | refine u_seq ?_
        | refine u_blk ?_
        | refine z_block ?_
        | refine z_skip ?_
        | refine z_ct rfl ?_
        | refine z_cf rfl ?_
        | refine z_exit ?_
        | refine z_ret ?_
        | refine u_exit ?_
        | refine u_exit_seq ?_
        | refine u_exit_other rfl ?_
        | refine u_ret_seq ?_
        | refine u_ret_blk ?_
        | refine o_gy rfl ?_
        | refine o_gn rfl rfl ?_
        | refine o_gt rfl ?_
        | refine o_mov rfl ?_
        | refine o_load rfl rfl ?_
        | refine o_loadn rfl rfl rfl rfl ?_
        | refine o_store rfl rfl rfl rfl rfl rfl rfl ?_
        | refine o_faddrm rfl ?_
        | refine o_faddrv rfl rfl rfl ?_
        | refine o_idxarrm rfl rfl rfl ?_
        | refine o_alloc ?_
        | refine o_pickt rfl rfl ?_
        | refine o_pickf rfl rfl ?_
        | refine o_un rfl rfl ?_
        | refine o_len rfl rfl ?_
        | refine o_build rfl rfl ?_
        | refine o_bslice rfl rfl ?_
        | refine o_box rfl rfl ?_
        | refine o_minmax2 rfl rfl rfl ?_
        | refine o_field rfl rfl ?_
        | refine o_append rfl rfl rfl rfl ?_
        | refine o_extract rfl rfl ?_
        | refine o_lenc ?_
        | refine z_drawn0 env0_ok rfl rfl rfl ?_
        | refine o_bin (op := .add) rfl rfl rfl ?_
        | refine o_bin (op := .sub) rfl rfl rfl ?_
        | refine o_eqbt rfl rfl rfl ?_
        | refine o_eqbf rfl rfl rfl ?_
        | refine o_cmpt rfl rfl rfl ?_
        | refine o_cmpf rfl rfl rfl ?_
        | refine o_idxs rfl rfl (Int.natCast_nonneg i) ge rfl ?_)
      have ho := (closeL_eq init p q at_).trans (if_pos hq)
      exact u_end ⟨rfl, _, sub_ren [(0, 0, [.bool _, .bool _]), (1, 0, [.int .i64 _, .int .i64 _]), (2, 0, (init.map rowP).flatten ++ [.int .i64 p, .int .i64 at_])] rfl rfl (by simp) (.cons rfl rfl (ren_keep rfl) (.cons rfl rfl (ren_keep rfl) (.cons (by rw [← hsetB init p q at_ hn]; rfl) rfl (ren_keep (hM2 init p at_)) .nil))) (.cons rfl (.same rfl) (.cons rfl (.same rfl) (.cons rfl (.ms rfl) (.cons rfl (.mptr rfl) (.cons rfl (.mptr rfl) (.cons rfl (.same rfl) (.cons rfl (ren_eq (congrArg AV.bool ((decide_eq_false hat).symm.trans ((congrArg openL ho).trans (openL_eq init p at_)).symm)) rfl) (.cons rfl (ren_eq (congrArg (AV.int .i64) (wrap_succ i (by omega))) rfl) .nil)))))))), .some init p at_ ho⟩
  · cases on
    · have hq : ¬ q = -1099511627776 := of_decide_eq_false hon.symm
      repeat (first
        | refine z_seq ?_
        | refine z_region rfl ?_
        | refine o_nil ?_
        | refine u_seq ?_
        | refine u_blk ?_
        | refine z_block ?_
        | refine z_skip ?_
        | refine z_ct rfl ?_
        | refine z_cf rfl ?_
        | refine z_exit ?_
        | refine z_ret ?_
        | refine u_exit ?_
        | refine u_exit_seq ?_
        | refine u_exit_other rfl ?_
        | refine u_ret_seq ?_
        | refine u_ret_blk ?_
        | refine o_gy rfl ?_
        | refine o_gn rfl rfl ?_
        | refine o_gt rfl ?_
        | refine o_mov rfl ?_
        | refine o_load rfl rfl ?_
        | refine o_loadn rfl rfl rfl rfl ?_
        | refine o_store rfl rfl rfl rfl rfl rfl rfl ?_
        | refine o_faddrm rfl ?_
        | refine o_faddrv rfl rfl rfl ?_
        | refine o_idxarrm rfl rfl rfl ?_
        | refine o_alloc ?_
        | refine o_pickt rfl rfl ?_
        | refine o_pickf rfl rfl ?_
        | refine o_un rfl rfl ?_
        | refine o_len rfl rfl ?_
        | refine o_build rfl rfl ?_
        | refine o_bslice rfl rfl ?_
        | refine o_box rfl rfl ?_
        | refine o_minmax2 rfl rfl rfl ?_
        | refine o_field rfl rfl ?_
        | refine o_append rfl rfl rfl rfl ?_
        | refine o_extract rfl rfl ?_
        | refine o_lenc ?_
        | refine z_drawn0 env0_ok rfl rfl rfl ?_
        | refine o_bin (op := .add) rfl rfl rfl ?_
        | refine o_bin (op := .sub) rfl rfl rfl ?_
        | refine o_eqbt rfl rfl rfl ?_
        | refine o_eqbf rfl rfl rfl ?_
        | refine o_cmpt rfl rfl rfl ?_
        | refine o_cmpf rfl rfl rfl ?_
        | refine o_idxs rfl rfl (Int.natCast_nonneg i) ge rfl ?_)
      have ho := (closeL_eq init p q at_).trans (if_neg hq)
      exact u_end ⟨rfl, _, sub_ren [(0, 0, [.bool _, .bool _]), (1, 0, [.int .i64 _, .int .i64 _]), (2, 0, (init.map rowP).flatten ++ [.int .i64 p, .int .i64 q])] rfl rfl (by simp) (.cons rfl rfl (ren_keep rfl) (.cons rfl rfl (ren_keep rfl) (.cons rfl rfl (ren_keep (hM2 init p q)) .nil))) (.cons rfl (.same rfl) (.cons rfl (.same rfl) (.cons rfl (.ms rfl) (.cons rfl (.mptr rfl) (.cons rfl (.mptr rfl) (.cons rfl (.same rfl) (.cons rfl (ren_eq (congrArg AV.bool (hon.trans ((congrArg openL ho).trans (openL_eq init p q)).symm)) rfl) (.cons rfl (ren_eq (congrArg (AV.int .i64) (wrap_succ i (by omega))) rfl) .nil)))))))), .some init p q ho⟩
    · have hq : q = -1099511627776 := of_decide_eq_true hon.symm
      repeat (first
        | refine z_seq ?_
        | refine z_region rfl ?_
        | refine o_nil ?_
        | refine u_seq ?_
        | refine u_blk ?_
        | refine z_block ?_
        | refine z_skip ?_
        | refine z_ct rfl ?_
        | refine z_cf rfl ?_
        | refine z_exit ?_
        | refine z_ret ?_
        | refine u_exit ?_
        | refine u_exit_seq ?_
        | refine u_exit_other rfl ?_
        | refine u_ret_seq ?_
        | refine u_ret_blk ?_
        | refine o_gy rfl ?_
        | refine o_gn rfl rfl ?_
        | refine o_gt rfl ?_
        | refine o_mov rfl ?_
        | refine o_load rfl rfl ?_
        | refine o_loadn rfl rfl rfl rfl ?_
        | refine o_store rfl rfl rfl rfl rfl rfl rfl ?_
        | refine o_faddrm rfl ?_
        | refine o_faddrv rfl rfl rfl ?_
        | refine o_idxarrm rfl rfl rfl ?_
        | refine o_alloc ?_
        | refine o_pickt rfl rfl ?_
        | refine o_pickf rfl rfl ?_
        | refine o_un rfl rfl ?_
        | refine o_len rfl rfl ?_
        | refine o_build rfl rfl ?_
        | refine o_bslice rfl rfl ?_
        | refine o_box rfl rfl ?_
        | refine o_minmax2 rfl rfl rfl ?_
        | refine o_field rfl rfl ?_
        | refine o_append rfl rfl rfl rfl ?_
        | refine o_extract rfl rfl ?_
        | refine o_lenc ?_
        | refine z_drawn0 env0_ok rfl rfl rfl ?_
        | refine o_bin (op := .add) rfl rfl rfl ?_
        | refine o_bin (op := .sub) rfl rfl rfl ?_
        | refine o_eqbt rfl rfl rfl ?_
        | refine o_eqbf rfl rfl rfl ?_
        | refine o_cmpt rfl rfl rfl ?_
        | refine o_cmpf rfl rfl rfl ?_
        | refine o_idxs rfl rfl (Int.natCast_nonneg i) ge rfl ?_)
      refine o_idxsm rfl rfl h0 hlt ?_
      repeat (first
        | refine z_seq ?_
        | refine z_region rfl ?_
        | refine o_nil ?_
        | refine u_seq ?_
        | refine u_blk ?_
        | refine z_block ?_
        | refine z_skip ?_
        | refine z_ct rfl ?_
        | refine z_cf rfl ?_
        | refine z_exit ?_
        | refine z_ret ?_
        | refine u_exit ?_
        | refine u_exit_seq ?_
        | refine u_exit_other rfl ?_
        | refine u_ret_seq ?_
        | refine u_ret_blk ?_
        | refine o_gy rfl ?_
        | refine o_gn rfl rfl ?_
        | refine o_gt rfl ?_
        | refine o_mov rfl ?_
        | refine o_load rfl rfl ?_
        | refine o_loadn rfl rfl rfl rfl ?_
        | refine o_store rfl rfl rfl rfl rfl rfl rfl ?_
        | refine o_faddrm rfl ?_
        | refine o_faddrv rfl rfl rfl ?_
        | refine o_idxarrm rfl rfl rfl ?_
        | refine o_alloc ?_
        | refine o_pickt rfl rfl ?_
        | refine o_pickf rfl rfl ?_
        | refine o_un rfl rfl ?_
        | refine o_len rfl rfl ?_
        | refine o_build rfl rfl ?_
        | refine o_bslice rfl rfl ?_
        | refine o_box rfl rfl ?_
        | refine o_minmax2 rfl rfl rfl ?_
        | refine o_field rfl rfl ?_
        | refine o_append rfl rfl rfl rfl ?_
        | refine o_extract rfl rfl ?_
        | refine o_lenc ?_
        | refine z_drawn0 env0_ok rfl rfl rfl ?_
        | refine o_bin (op := .add) rfl rfl rfl ?_
        | refine o_bin (op := .sub) rfl rfl rfl ?_
        | refine o_eqbt rfl rfl rfl ?_
        | refine o_eqbf rfl rfl rfl ?_
        | refine o_cmpt rfl rfl rfl ?_
        | refine o_cmpf rfl rfl rfl ?_
        | refine o_idxs rfl rfl (Int.natCast_nonneg i) ge rfl ?_)
      refine o_store rfl rfl rfl rfl rfl (hleB init p q hn) rfl ?_
      repeat (first
        | refine z_seq ?_
        | refine z_region rfl ?_
        | refine o_nil ?_
        | refine u_seq ?_
        | refine u_blk ?_
        | refine z_block ?_
        | refine z_skip ?_
        | refine z_ct rfl ?_
        | refine z_cf rfl ?_
        | refine z_exit ?_
        | refine z_ret ?_
        | refine u_exit ?_
        | refine u_exit_seq ?_
        | refine u_exit_other rfl ?_
        | refine u_ret_seq ?_
        | refine u_ret_blk ?_
        | refine o_gy rfl ?_
        | refine o_gn rfl rfl ?_
        | refine o_gt rfl ?_
        | refine o_mov rfl ?_
        | refine o_load rfl rfl ?_
        | refine o_loadn rfl rfl rfl rfl ?_
        | refine o_store rfl rfl rfl rfl rfl rfl rfl ?_
        | refine o_faddrm rfl ?_
        | refine o_faddrv rfl rfl rfl ?_
        | refine o_idxarrm rfl rfl rfl ?_
        | refine o_alloc ?_
        | refine o_pickt rfl rfl ?_
        | refine o_pickf rfl rfl ?_
        | refine o_un rfl rfl ?_
        | refine o_len rfl rfl ?_
        | refine o_build rfl rfl ?_
        | refine o_bslice rfl rfl ?_
        | refine o_box rfl rfl ?_
        | refine o_minmax2 rfl rfl rfl ?_
        | refine o_field rfl rfl ?_
        | refine o_append rfl rfl rfl rfl ?_
        | refine o_extract rfl rfl ?_
        | refine o_lenc ?_
        | refine z_drawn0 env0_ok rfl rfl rfl ?_
        | refine o_bin (op := .add) rfl rfl rfl ?_
        | refine o_bin (op := .sub) rfl rfl rfl ?_
        | refine o_eqbt rfl rfl rfl ?_
        | refine o_eqbf rfl rfl rfl ?_
        | refine o_cmpt rfl rfl rfl ?_
        | refine o_cmpf rfl rfl rfl ?_
        | refine o_idxs rfl rfl (Int.natCast_nonneg i) ge rfl ?_)
      have ho := (closeL_eq init p q at_).trans (if_pos hq)
      exact u_end ⟨rfl, _, sub_ren [(0, 0, [.bool _, .bool _]), (1, 0, [.int .i64 _, .int .i64 _]), (2, 0, (init.map rowP).flatten ++ [.int .i64 p, .int .i64 at_])] rfl rfl (by simp) (.cons rfl rfl (ren_keep rfl) (.cons rfl rfl (ren_keep rfl) (.cons (by rw [← hsetB init p q at_ hn]; rfl) rfl (ren_keep (hM2 init p at_)) .nil))) (.cons rfl (.same rfl) (.cons rfl (.same rfl) (.cons rfl (.ms rfl) (.cons rfl (.mptr rfl) (.cons rfl (.mptr rfl) (.cons rfl (.same rfl) (.cons rfl (ren_eq (congrArg AV.bool ((decide_eq_false hat).symm.trans ((congrArg openL ho).trans (openL_eq init p at_)).symm)) rfl) (.cons rfl (ren_eq (congrArg (AV.int .i64) (wrap_succ i (by omega))) rfl) .nil)))))))), .some init p at_ ho⟩
  · cases on
    · repeat (first
        | refine z_seq ?_
        | refine z_region rfl ?_
        | refine o_nil ?_
        | refine u_seq ?_
        | refine u_blk ?_
        | refine z_block ?_
        | refine z_skip ?_
        | refine z_ct rfl ?_
        | refine z_cf rfl ?_
        | refine z_exit ?_
        | refine z_ret ?_
        | refine u_exit ?_
        | refine u_exit_seq ?_
        | refine u_exit_other rfl ?_
        | refine u_ret_seq ?_
        | refine u_ret_blk ?_
        | refine o_gy rfl ?_
        | refine o_gn rfl rfl ?_
        | refine o_gt rfl ?_
        | refine o_mov rfl ?_
        | refine o_load rfl rfl ?_
        | refine o_loadn rfl rfl rfl rfl ?_
        | refine o_store rfl rfl rfl rfl rfl rfl rfl ?_
        | refine o_faddrm rfl ?_
        | refine o_faddrv rfl rfl rfl ?_
        | refine o_idxarrm rfl rfl rfl ?_
        | refine o_alloc ?_
        | refine o_pickt rfl rfl ?_
        | refine o_pickf rfl rfl ?_
        | refine o_un rfl rfl ?_
        | refine o_len rfl rfl ?_
        | refine o_build rfl rfl ?_
        | refine o_bslice rfl rfl ?_
        | refine o_box rfl rfl ?_
        | refine o_minmax2 rfl rfl rfl ?_
        | refine o_field rfl rfl ?_
        | refine o_append rfl rfl rfl rfl ?_
        | refine o_extract rfl rfl ?_
        | refine o_lenc ?_
        | refine z_drawn0 env0_ok rfl rfl rfl ?_
        | refine o_bin (op := .add) rfl rfl rfl ?_
        | refine o_bin (op := .sub) rfl rfl rfl ?_
        | refine o_eqbt rfl rfl rfl ?_
        | refine o_eqbf rfl rfl rfl ?_
        | refine o_cmpt rfl rfl rfl ?_
        | refine o_cmpf rfl rfl rfl ?_
        | refine o_idxs rfl rfl (Int.natCast_nonneg i) ge rfl ?_)
      exact u_end ⟨rfl, _, sub_ren [(0, 0, [.bool _, .bool _]), (1, 0, [.int .i64 _, .int .i64 _]), (2, 0, (init.map rowP).flatten ++ [.int .i64 p, .int .i64 q])] rfl rfl (by simp) (.cons rfl rfl (ren_keep rfl) (.cons rfl rfl (ren_keep rfl) (.cons rfl rfl (ren_keep (hM2 init p q)) .nil))) (.cons rfl (.same rfl) (.cons rfl (.same rfl) (.cons rfl (.ms rfl) (.cons rfl (.mptr rfl) (.cons rfl (.mptr rfl) (.cons rfl (.same rfl) (.cons rfl (ren_eq (congrArg AV.bool (hon.trans (openL_eq init p q).symm)) rfl) (.cons rfl (ren_eq (congrArg (AV.int .i64) (wrap_succ i (by omega))) rfl) .nil)))))))), .some init p q rfl⟩
    · repeat (first
        | refine z_seq ?_
        | refine z_region rfl ?_
        | refine o_nil ?_
        | refine u_seq ?_
        | refine u_blk ?_
        | refine z_block ?_
        | refine z_skip ?_
        | refine z_ct rfl ?_
        | refine z_cf rfl ?_
        | refine z_exit ?_
        | refine z_ret ?_
        | refine u_exit ?_
        | refine u_exit_seq ?_
        | refine u_exit_other rfl ?_
        | refine u_ret_seq ?_
        | refine u_ret_blk ?_
        | refine o_gy rfl ?_
        | refine o_gn rfl rfl ?_
        | refine o_gt rfl ?_
        | refine o_mov rfl ?_
        | refine o_load rfl rfl ?_
        | refine o_loadn rfl rfl rfl rfl ?_
        | refine o_store rfl rfl rfl rfl rfl rfl rfl ?_
        | refine o_faddrm rfl ?_
        | refine o_faddrv rfl rfl rfl ?_
        | refine o_idxarrm rfl rfl rfl ?_
        | refine o_alloc ?_
        | refine o_pickt rfl rfl ?_
        | refine o_pickf rfl rfl ?_
        | refine o_un rfl rfl ?_
        | refine o_len rfl rfl ?_
        | refine o_build rfl rfl ?_
        | refine o_bslice rfl rfl ?_
        | refine o_box rfl rfl ?_
        | refine o_minmax2 rfl rfl rfl ?_
        | refine o_field rfl rfl ?_
        | refine o_append rfl rfl rfl rfl ?_
        | refine o_extract rfl rfl ?_
        | refine o_lenc ?_
        | refine z_drawn0 env0_ok rfl rfl rfl ?_
        | refine o_bin (op := .add) rfl rfl rfl ?_
        | refine o_bin (op := .sub) rfl rfl rfl ?_
        | refine o_eqbt rfl rfl rfl ?_
        | refine o_eqbf rfl rfl rfl ?_
        | refine o_cmpt rfl rfl rfl ?_
        | refine o_cmpf rfl rfl rfl ?_
        | refine o_idxs rfl rfl (Int.natCast_nonneg i) ge rfl ?_)
      exact u_end ⟨rfl, _, sub_ren [(0, 0, [.bool _, .bool _]), (1, 0, [.int .i64 _, .int .i64 _]), (2, 0, (init.map rowP).flatten ++ [.int .i64 p, .int .i64 q])] rfl rfl (by simp) (.cons rfl rfl (ren_keep rfl) (.cons rfl rfl (ren_keep rfl) (.cons rfl rfl (ren_keep (hM2 init p q)) .nil))) (.cons rfl (.same rfl) (.cons rfl (.same rfl) (.cons rfl (.ms rfl) (.cons rfl (.mptr rfl) (.cons rfl (.mptr rfl) (.cons rfl (.same rfl) (.cons rfl (ren_eq (congrArg AV.bool (hon.trans (openL_eq init p q).symm)) rfl) (.cons rfl (ren_eq (congrArg (AV.int .i64) (wrap_succ i (by omega))) rfl) .nil)))))))), .some init p q rfl⟩
  · cases on <;> cases rdy
    · repeat (first
        | refine z_seq ?_
        | refine z_region rfl ?_
        | refine o_nil ?_
        | refine u_seq ?_
        | refine u_blk ?_
        | refine z_block ?_
        | refine z_skip ?_
        | refine z_ct rfl ?_
        | refine z_cf rfl ?_
        | refine z_exit ?_
        | refine z_ret ?_
        | refine u_exit ?_
        | refine u_exit_seq ?_
        | refine u_exit_other rfl ?_
        | refine u_ret_seq ?_
        | refine u_ret_blk ?_
        | refine o_gy rfl ?_
        | refine o_gn rfl rfl ?_
        | refine o_gt rfl ?_
        | refine o_mov rfl ?_
        | refine o_load rfl rfl ?_
        | refine o_loadn rfl rfl rfl rfl ?_
        | refine o_store rfl rfl rfl rfl rfl rfl rfl ?_
        | refine o_faddrm rfl ?_
        | refine o_faddrv rfl rfl rfl ?_
        | refine o_idxarrm rfl rfl rfl ?_
        | refine o_alloc ?_
        | refine o_pickt rfl rfl ?_
        | refine o_pickf rfl rfl ?_
        | refine o_un rfl rfl ?_
        | refine o_len rfl rfl ?_
        | refine o_build rfl rfl ?_
        | refine o_bslice rfl rfl ?_
        | refine o_box rfl rfl ?_
        | refine o_minmax2 rfl rfl rfl ?_
        | refine o_field rfl rfl ?_
        | refine o_append rfl rfl rfl rfl ?_
        | refine o_extract rfl rfl ?_
        | refine o_lenc ?_
        | refine z_drawn0 env0_ok rfl rfl rfl ?_
        | refine o_bin (op := .add) rfl rfl rfl ?_
        | refine o_bin (op := .sub) rfl rfl rfl ?_
        | refine o_eqbt rfl rfl rfl ?_
        | refine o_eqbf rfl rfl rfl ?_
        | refine o_cmpt rfl rfl rfl ?_
        | refine o_cmpf rfl rfl rfl ?_
        | refine o_idxs rfl rfl (Int.natCast_nonneg i) ge rfl ?_)
      exact u_end ⟨rfl, _, sub_ren [(0, 0, [.bool _, .bool _]), (1, 0, [.int .i64 _, .int .i64 _]), (2, 0, (init.map rowP).flatten ++ [.int .i64 p, .int .i64 q])] rfl rfl (by simp) (.cons rfl rfl (ren_keep rfl) (.cons rfl rfl (ren_keep rfl) (.cons rfl rfl (ren_keep (hM2 init p q)) .nil))) (.cons rfl (.same rfl) (.cons rfl (.same rfl) (.cons rfl (.ms rfl) (.cons rfl (.mptr rfl) (.cons rfl (.mptr rfl) (.cons rfl (.same rfl) (.cons rfl (ren_eq (congrArg AV.bool (hon.trans (openL_eq init p q).symm)) rfl) (.cons rfl (ren_eq (congrArg (AV.int .i64) (wrap_succ i (by omega))) rfl) .nil)))))))), .some init p q rfl⟩
    · repeat (first
        | refine z_seq ?_
        | refine z_region rfl ?_
        | refine o_nil ?_
        | refine u_seq ?_
        | refine u_blk ?_
        | refine z_block ?_
        | refine z_skip ?_
        | refine z_ct rfl ?_
        | refine z_cf rfl ?_
        | refine z_exit ?_
        | refine z_ret ?_
        | refine u_exit ?_
        | refine u_exit_seq ?_
        | refine u_exit_other rfl ?_
        | refine u_ret_seq ?_
        | refine u_ret_blk ?_
        | refine o_gy rfl ?_
        | refine o_gn rfl rfl ?_
        | refine o_gt rfl ?_
        | refine o_mov rfl ?_
        | refine o_load rfl rfl ?_
        | refine o_loadn rfl rfl rfl rfl ?_
        | refine o_store rfl rfl rfl rfl rfl rfl rfl ?_
        | refine o_faddrm rfl ?_
        | refine o_faddrv rfl rfl rfl ?_
        | refine o_idxarrm rfl rfl rfl ?_
        | refine o_alloc ?_
        | refine o_pickt rfl rfl ?_
        | refine o_pickf rfl rfl ?_
        | refine o_un rfl rfl ?_
        | refine o_len rfl rfl ?_
        | refine o_build rfl rfl ?_
        | refine o_bslice rfl rfl ?_
        | refine o_box rfl rfl ?_
        | refine o_minmax2 rfl rfl rfl ?_
        | refine o_field rfl rfl ?_
        | refine o_append rfl rfl rfl rfl ?_
        | refine o_extract rfl rfl ?_
        | refine o_lenc ?_
        | refine z_drawn0 env0_ok rfl rfl rfl ?_
        | refine o_bin (op := .add) rfl rfl rfl ?_
        | refine o_bin (op := .sub) rfl rfl rfl ?_
        | refine o_eqbt rfl rfl rfl ?_
        | refine o_eqbf rfl rfl rfl ?_
        | refine o_cmpt rfl rfl rfl ?_
        | refine o_cmpf rfl rfl rfl ?_
        | refine o_idxs rfl rfl (Int.natCast_nonneg i) ge rfl ?_)
      refine o_cmp rfl rfl rfl (fun h => ?_) fun h => ?_
      · have hle := of_decide_eq_true h
        repeat (first
          | refine z_seq ?_
          | refine z_region rfl ?_
          | refine o_nil ?_
          | refine u_seq ?_
          | refine u_blk ?_
          | refine z_block ?_
          | refine z_skip ?_
          | refine z_ct rfl ?_
          | refine z_cf rfl ?_
          | refine z_exit ?_
          | refine z_ret ?_
          | refine u_exit ?_
          | refine u_exit_seq ?_
          | refine u_exit_other rfl ?_
          | refine u_ret_seq ?_
          | refine u_ret_blk ?_
          | refine o_gy rfl ?_
          | refine o_gn rfl rfl ?_
          | refine o_gt rfl ?_
          | refine o_mov rfl ?_
          | refine o_load rfl rfl ?_
          | refine o_loadn rfl rfl rfl rfl ?_
          | refine o_store rfl rfl rfl rfl rfl rfl rfl ?_
          | refine o_faddrm rfl ?_
          | refine o_faddrv rfl rfl rfl ?_
          | refine o_idxarrm rfl rfl rfl ?_
          | refine o_alloc ?_
          | refine o_pickt rfl rfl ?_
          | refine o_pickf rfl rfl ?_
          | refine o_un rfl rfl ?_
          | refine o_len rfl rfl ?_
          | refine o_build rfl rfl ?_
          | refine o_bslice rfl rfl ?_
          | refine o_box rfl rfl ?_
          | refine o_minmax2 rfl rfl rfl ?_
          | refine o_field rfl rfl ?_
          | refine o_append rfl rfl rfl rfl ?_
          | refine o_extract rfl rfl ?_
          | refine o_lenc ?_
          | refine z_drawn0 env0_ok rfl rfl rfl ?_
          | refine o_bin (op := .add) rfl rfl rfl ?_
          | refine o_bin (op := .sub) rfl rfl rfl ?_
          | refine o_eqbt rfl rfl rfl ?_
          | refine o_eqbf rfl rfl rfl ?_
          | refine o_cmpt rfl rfl rfl ?_
          | refine o_cmpf rfl rfl rfl ?_
          | refine o_idxs rfl rfl (Int.natCast_nonneg i) ge rfl ?_)
        refine o_append_ms [rowP (at_, -1099511627776)] rfl rfl rfl (by simp) rfl (by decide) rfl (by rw [List.length_append, flat_length (sz := 2) (fun x hx => by obtain ⟨_, _, rfl⟩ := List.mem_map.1 hx; rfl), List.length_map]; simp; omega) (by simp; omega) ?_
        repeat (first
          | refine z_seq ?_
          | refine z_region rfl ?_
          | refine o_nil ?_
          | refine u_seq ?_
          | refine u_blk ?_
          | refine z_block ?_
          | refine z_skip ?_
          | refine z_ct rfl ?_
          | refine z_cf rfl ?_
          | refine z_exit ?_
          | refine z_ret ?_
          | refine u_exit ?_
          | refine u_exit_seq ?_
          | refine u_exit_other rfl ?_
          | refine u_ret_seq ?_
          | refine u_ret_blk ?_
          | refine o_gy rfl ?_
          | refine o_gn rfl rfl ?_
          | refine o_gt rfl ?_
          | refine o_mov rfl ?_
          | refine o_load rfl rfl ?_
          | refine o_loadn rfl rfl rfl rfl ?_
          | refine o_store rfl rfl rfl rfl rfl rfl rfl ?_
          | refine o_faddrm rfl ?_
          | refine o_faddrv rfl rfl rfl ?_
          | refine o_idxarrm rfl rfl rfl ?_
          | refine o_alloc ?_
          | refine o_pickt rfl rfl ?_
          | refine o_pickf rfl rfl ?_
          | refine o_un rfl rfl ?_
          | refine o_len rfl rfl ?_
          | refine o_build rfl rfl ?_
          | refine o_bslice rfl rfl ?_
          | refine o_box rfl rfl ?_
          | refine o_minmax2 rfl rfl rfl ?_
          | refine o_field rfl rfl ?_
          | refine o_append rfl rfl rfl rfl ?_
          | refine o_extract rfl rfl ?_
          | refine o_lenc ?_
          | refine z_drawn0 env0_ok rfl rfl rfl ?_
          | refine o_bin (op := .add) rfl rfl rfl ?_
          | refine o_bin (op := .sub) rfl rfl rfl ?_
          | refine o_eqbt rfl rfl rfl ?_
          | refine o_eqbf rfl rfl rfl ?_
          | refine o_cmpt rfl rfl rfl ?_
          | refine o_cmpf rfl rfl rfl ?_
          | refine o_idxs rfl rfl (Int.natCast_nonneg i) ge rfl ?_)
        have hlen : init.length + 1 + 1 = (init ++ [(p, q)]).length + 1 := by simp
        have hcs : ((init.map rowP).flatten ++ [AV.int .i64 p, .int .i64 q]) ++ [rowP (at_, -1099511627776)].flatten = ((init ++ [(p, q)]).map rowP).flatten ++ [AV.int .i64 at_, .int .i64 (-1099511627776)] := by simp [rowP]
        have ho : (both w (init ++ [(p, q)]) _ _ at_ true).out = (init ++ [(p, q)]) ++ [(at_, -1099511627776)] := if_pos ⟨rfl, hle⟩
        refine u_end ⟨rfl, _, ?_, .some (init ++ [(p, q)]) at_ (-1099511627776) ho⟩
        rw [← hlen, ← hcs]
        exact sub_ren [(0, 0, [.bool _, .bool _]), (1, 0, [.int .i64 _, .int .i64 _]), (2, 2, ((init.map rowP).flatten ++ [AV.int .i64 p, .int .i64 q]) ++ [rowP (at_, -1099511627776)].flatten)] rfl rfl (by simp) (.cons rfl rfl (ren_keep rfl) (.cons rfl rfl (ren_keep rfl) (.cons rfl rfl (ren_keep (hasML_append (hM2 init p q) rfl)) .nil))) (.cons rfl (.same rfl) (.cons rfl (.same rfl) (.cons rfl (.ms rfl) (.cons rfl (.mptr rfl) (.cons rfl (.mptr rfl) (.cons rfl (.same rfl) (.cons rfl (ren_eq (congrArg AV.bool ((decide_eq_true rfl).symm.trans ((congrArg openL ho).trans (openL_eq (init ++ [(p, q)]) at_ (-1099511627776))).symm)) rfl) (.cons rfl (ren_eq (congrArg (AV.int .i64) (wrap_succ i (by omega))) rfl) .nil))))))))
      · have hle := of_decide_eq_false h
        repeat (first
          | refine z_seq ?_
          | refine z_region rfl ?_
          | refine o_nil ?_
          | refine u_seq ?_
          | refine u_blk ?_
          | refine z_block ?_
          | refine z_skip ?_
          | refine z_ct rfl ?_
          | refine z_cf rfl ?_
          | refine z_exit ?_
          | refine z_ret ?_
          | refine u_exit ?_
          | refine u_exit_seq ?_
          | refine u_exit_other rfl ?_
          | refine u_ret_seq ?_
          | refine u_ret_blk ?_
          | refine o_gy rfl ?_
          | refine o_gn rfl rfl ?_
          | refine o_gt rfl ?_
          | refine o_mov rfl ?_
          | refine o_load rfl rfl ?_
          | refine o_loadn rfl rfl rfl rfl ?_
          | refine o_store rfl rfl rfl rfl rfl rfl rfl ?_
          | refine o_faddrm rfl ?_
          | refine o_faddrv rfl rfl rfl ?_
          | refine o_idxarrm rfl rfl rfl ?_
          | refine o_alloc ?_
          | refine o_pickt rfl rfl ?_
          | refine o_pickf rfl rfl ?_
          | refine o_un rfl rfl ?_
          | refine o_len rfl rfl ?_
          | refine o_build rfl rfl ?_
          | refine o_bslice rfl rfl ?_
          | refine o_box rfl rfl ?_
          | refine o_minmax2 rfl rfl rfl ?_
          | refine o_field rfl rfl ?_
          | refine o_append rfl rfl rfl rfl ?_
          | refine o_extract rfl rfl ?_
          | refine o_lenc ?_
          | refine z_drawn0 env0_ok rfl rfl rfl ?_
          | refine o_bin (op := .add) rfl rfl rfl ?_
          | refine o_bin (op := .sub) rfl rfl rfl ?_
          | refine o_eqbt rfl rfl rfl ?_
          | refine o_eqbf rfl rfl rfl ?_
          | refine o_cmpt rfl rfl rfl ?_
          | refine o_cmpf rfl rfl rfl ?_
          | refine o_idxs rfl rfl (Int.natCast_nonneg i) ge rfl ?_)
        have ho : (both w (init ++ [(p, q)]) _ _ at_ true).out = init ++ [(p, q)] := if_neg fun x => hle x.2
        exact u_end ⟨rfl, _, sub_ren [(0, 0, [.bool _, .bool _]), (1, 0, [.int .i64 _, .int .i64 _]), (2, 0, (init.map rowP).flatten ++ [.int .i64 p, .int .i64 q])] rfl rfl (by simp) (.cons rfl rfl (ren_keep rfl) (.cons rfl rfl (ren_keep rfl) (.cons rfl rfl (ren_keep (hM2 init p q)) .nil))) (.cons rfl (.same rfl) (.cons rfl (.same rfl) (.cons rfl (.ms rfl) (.cons rfl (.mptr rfl) (.cons rfl (.mptr rfl) (.cons rfl (.same rfl) (.cons rfl (ren_eq (congrArg AV.bool (hon.trans ((congrArg openL ho).trans (openL_eq init p q)).symm)) rfl) (.cons rfl (ren_eq (congrArg (AV.int .i64) (wrap_succ i (by omega))) rfl) .nil)))))))), .some init p q ho⟩
    · repeat (first
        | refine z_seq ?_
        | refine z_region rfl ?_
        | refine o_nil ?_
        | refine u_seq ?_
        | refine u_blk ?_
        | refine z_block ?_
        | refine z_skip ?_
        | refine z_ct rfl ?_
        | refine z_cf rfl ?_
        | refine z_exit ?_
        | refine z_ret ?_
        | refine u_exit ?_
        | refine u_exit_seq ?_
        | refine u_exit_other rfl ?_
        | refine u_ret_seq ?_
        | refine u_ret_blk ?_
        | refine o_gy rfl ?_
        | refine o_gn rfl rfl ?_
        | refine o_gt rfl ?_
        | refine o_mov rfl ?_
        | refine o_load rfl rfl ?_
        | refine o_loadn rfl rfl rfl rfl ?_
        | refine o_store rfl rfl rfl rfl rfl rfl rfl ?_
        | refine o_faddrm rfl ?_
        | refine o_faddrv rfl rfl rfl ?_
        | refine o_idxarrm rfl rfl rfl ?_
        | refine o_alloc ?_
        | refine o_pickt rfl rfl ?_
        | refine o_pickf rfl rfl ?_
        | refine o_un rfl rfl ?_
        | refine o_len rfl rfl ?_
        | refine o_build rfl rfl ?_
        | refine o_bslice rfl rfl ?_
        | refine o_box rfl rfl ?_
        | refine o_minmax2 rfl rfl rfl ?_
        | refine o_field rfl rfl ?_
        | refine o_append rfl rfl rfl rfl ?_
        | refine o_extract rfl rfl ?_
        | refine o_lenc ?_
        | refine z_drawn0 env0_ok rfl rfl rfl ?_
        | refine o_bin (op := .add) rfl rfl rfl ?_
        | refine o_bin (op := .sub) rfl rfl rfl ?_
        | refine o_eqbt rfl rfl rfl ?_
        | refine o_eqbf rfl rfl rfl ?_
        | refine o_cmpt rfl rfl rfl ?_
        | refine o_cmpf rfl rfl rfl ?_
        | refine o_idxs rfl rfl (Int.natCast_nonneg i) ge rfl ?_)
      exact u_end ⟨rfl, _, sub_ren [(0, 0, [.bool _, .bool _]), (1, 0, [.int .i64 _, .int .i64 _]), (2, 0, (init.map rowP).flatten ++ [.int .i64 p, .int .i64 q])] rfl rfl (by simp) (.cons rfl rfl (ren_keep rfl) (.cons rfl rfl (ren_keep rfl) (.cons rfl rfl (ren_keep (hM2 init p q)) .nil))) (.cons rfl (.same rfl) (.cons rfl (.same rfl) (.cons rfl (.ms rfl) (.cons rfl (.mptr rfl) (.cons rfl (.mptr rfl) (.cons rfl (.same rfl) (.cons rfl (ren_eq (congrArg AV.bool (hon.trans (openL_eq init p q).symm)) rfl) (.cons rfl (ren_eq (congrArg (AV.int .i64) (wrap_succ i (by omega))) rfl) .nil)))))))), .some init p q rfl⟩
    · repeat (first
        | refine z_seq ?_
        | refine z_region rfl ?_
        | refine o_nil ?_
        | refine u_seq ?_
        | refine u_blk ?_
        | refine z_block ?_
        | refine z_skip ?_
        | refine z_ct rfl ?_
        | refine z_cf rfl ?_
        | refine z_exit ?_
        | refine z_ret ?_
        | refine u_exit ?_
        | refine u_exit_seq ?_
        | refine u_exit_other rfl ?_
        | refine u_ret_seq ?_
        | refine u_ret_blk ?_
        | refine o_gy rfl ?_
        | refine o_gn rfl rfl ?_
        | refine o_gt rfl ?_
        | refine o_mov rfl ?_
        | refine o_load rfl rfl ?_
        | refine o_loadn rfl rfl rfl rfl ?_
        | refine o_store rfl rfl rfl rfl rfl rfl rfl ?_
        | refine o_faddrm rfl ?_
        | refine o_faddrv rfl rfl rfl ?_
        | refine o_idxarrm rfl rfl rfl ?_
        | refine o_alloc ?_
        | refine o_pickt rfl rfl ?_
        | refine o_pickf rfl rfl ?_
        | refine o_un rfl rfl ?_
        | refine o_len rfl rfl ?_
        | refine o_build rfl rfl ?_
        | refine o_bslice rfl rfl ?_
        | refine o_box rfl rfl ?_
        | refine o_minmax2 rfl rfl rfl ?_
        | refine o_field rfl rfl ?_
        | refine o_append rfl rfl rfl rfl ?_
        | refine o_extract rfl rfl ?_
        | refine o_lenc ?_
        | refine z_drawn0 env0_ok rfl rfl rfl ?_
        | refine o_bin (op := .add) rfl rfl rfl ?_
        | refine o_bin (op := .sub) rfl rfl rfl ?_
        | refine o_eqbt rfl rfl rfl ?_
        | refine o_eqbf rfl rfl rfl ?_
        | refine o_cmpt rfl rfl rfl ?_
        | refine o_cmpf rfl rfl rfl ?_
        | refine o_idxs rfl rfl (Int.natCast_nonneg i) ge rfl ?_)
      refine o_cmp rfl rfl rfl (fun h => ?_) fun h => ?_
      · have hle := of_decide_eq_true h
        repeat (first
          | refine z_seq ?_
          | refine z_region rfl ?_
          | refine o_nil ?_
          | refine u_seq ?_
          | refine u_blk ?_
          | refine z_block ?_
          | refine z_skip ?_
          | refine z_ct rfl ?_
          | refine z_cf rfl ?_
          | refine z_exit ?_
          | refine z_ret ?_
          | refine u_exit ?_
          | refine u_exit_seq ?_
          | refine u_exit_other rfl ?_
          | refine u_ret_seq ?_
          | refine u_ret_blk ?_
          | refine o_gy rfl ?_
          | refine o_gn rfl rfl ?_
          | refine o_gt rfl ?_
          | refine o_mov rfl ?_
          | refine o_load rfl rfl ?_
          | refine o_loadn rfl rfl rfl rfl ?_
          | refine o_store rfl rfl rfl rfl rfl rfl rfl ?_
          | refine o_faddrm rfl ?_
          | refine o_faddrv rfl rfl rfl ?_
          | refine o_idxarrm rfl rfl rfl ?_
          | refine o_alloc ?_
          | refine o_pickt rfl rfl ?_
          | refine o_pickf rfl rfl ?_
          | refine o_un rfl rfl ?_
          | refine o_len rfl rfl ?_
          | refine o_build rfl rfl ?_
          | refine o_bslice rfl rfl ?_
          | refine o_box rfl rfl ?_
          | refine o_minmax2 rfl rfl rfl ?_
          | refine o_field rfl rfl ?_
          | refine o_append rfl rfl rfl rfl ?_
          | refine o_extract rfl rfl ?_
          | refine o_lenc ?_
          | refine z_drawn0 env0_ok rfl rfl rfl ?_
          | refine o_bin (op := .add) rfl rfl rfl ?_
          | refine o_bin (op := .sub) rfl rfl rfl ?_
          | refine o_eqbt rfl rfl rfl ?_
          | refine o_eqbf rfl rfl rfl ?_
          | refine o_cmpt rfl rfl rfl ?_
          | refine o_cmpf rfl rfl rfl ?_
          | refine o_idxs rfl rfl (Int.natCast_nonneg i) ge rfl ?_)
        refine o_append_ms [rowP (at_, -1099511627776)] rfl rfl rfl (by simp) rfl (by decide) rfl (by rw [List.length_append, flat_length (sz := 2) (fun x hx => by obtain ⟨_, _, rfl⟩ := List.mem_map.1 hx; rfl), List.length_map]; simp; omega) (by simp; omega) ?_
        repeat (first
          | refine z_seq ?_
          | refine z_region rfl ?_
          | refine o_nil ?_
          | refine u_seq ?_
          | refine u_blk ?_
          | refine z_block ?_
          | refine z_skip ?_
          | refine z_ct rfl ?_
          | refine z_cf rfl ?_
          | refine z_exit ?_
          | refine z_ret ?_
          | refine u_exit ?_
          | refine u_exit_seq ?_
          | refine u_exit_other rfl ?_
          | refine u_ret_seq ?_
          | refine u_ret_blk ?_
          | refine o_gy rfl ?_
          | refine o_gn rfl rfl ?_
          | refine o_gt rfl ?_
          | refine o_mov rfl ?_
          | refine o_load rfl rfl ?_
          | refine o_loadn rfl rfl rfl rfl ?_
          | refine o_store rfl rfl rfl rfl rfl rfl rfl ?_
          | refine o_faddrm rfl ?_
          | refine o_faddrv rfl rfl rfl ?_
          | refine o_idxarrm rfl rfl rfl ?_
          | refine o_alloc ?_
          | refine o_pickt rfl rfl ?_
          | refine o_pickf rfl rfl ?_
          | refine o_un rfl rfl ?_
          | refine o_len rfl rfl ?_
          | refine o_build rfl rfl ?_
          | refine o_bslice rfl rfl ?_
          | refine o_box rfl rfl ?_
          | refine o_minmax2 rfl rfl rfl ?_
          | refine o_field rfl rfl ?_
          | refine o_append rfl rfl rfl rfl ?_
          | refine o_extract rfl rfl ?_
          | refine o_lenc ?_
          | refine z_drawn0 env0_ok rfl rfl rfl ?_
          | refine o_bin (op := .add) rfl rfl rfl ?_
          | refine o_bin (op := .sub) rfl rfl rfl ?_
          | refine o_eqbt rfl rfl rfl ?_
          | refine o_eqbf rfl rfl rfl ?_
          | refine o_cmpt rfl rfl rfl ?_
          | refine o_cmpf rfl rfl rfl ?_
          | refine o_idxs rfl rfl (Int.natCast_nonneg i) ge rfl ?_)
        have hlen : init.length + 1 + 1 = (init ++ [(p, q)]).length + 1 := by simp
        have hcs : ((init.map rowP).flatten ++ [AV.int .i64 p, .int .i64 q]) ++ [rowP (at_, -1099511627776)].flatten = ((init ++ [(p, q)]).map rowP).flatten ++ [AV.int .i64 at_, .int .i64 (-1099511627776)] := by simp [rowP]
        have ho : (both w (init ++ [(p, q)]) _ _ at_ true).out = (init ++ [(p, q)]) ++ [(at_, -1099511627776)] := if_pos ⟨rfl, hle⟩
        refine u_end ⟨rfl, _, ?_, .some (init ++ [(p, q)]) at_ (-1099511627776) ho⟩
        rw [← hlen, ← hcs]
        exact sub_ren [(0, 0, [.bool _, .bool _]), (1, 0, [.int .i64 _, .int .i64 _]), (2, 2, ((init.map rowP).flatten ++ [AV.int .i64 p, .int .i64 q]) ++ [rowP (at_, -1099511627776)].flatten)] rfl rfl (by simp) (.cons rfl rfl (ren_keep rfl) (.cons rfl rfl (ren_keep rfl) (.cons rfl rfl (ren_keep (hasML_append (hM2 init p q) rfl)) .nil))) (.cons rfl (.same rfl) (.cons rfl (.same rfl) (.cons rfl (.ms rfl) (.cons rfl (.mptr rfl) (.cons rfl (.mptr rfl) (.cons rfl (.same rfl) (.cons rfl (ren_eq (congrArg AV.bool ((decide_eq_true rfl).symm.trans ((congrArg openL ho).trans (openL_eq (init ++ [(p, q)]) at_ (-1099511627776))).symm)) rfl) (.cons rfl (ren_eq (congrArg (AV.int .i64) (wrap_succ i (by omega))) rfl) .nil))))))))
      · have hle := of_decide_eq_false h
        repeat (first
          | refine z_seq ?_
          | refine z_region rfl ?_
          | refine o_nil ?_
          | refine u_seq ?_
          | refine u_blk ?_
          | refine z_block ?_
          | refine z_skip ?_
          | refine z_ct rfl ?_
          | refine z_cf rfl ?_
          | refine z_exit ?_
          | refine z_ret ?_
          | refine u_exit ?_
          | refine u_exit_seq ?_
          | refine u_exit_other rfl ?_
          | refine u_ret_seq ?_
          | refine u_ret_blk ?_
          | refine o_gy rfl ?_
          | refine o_gn rfl rfl ?_
          | refine o_gt rfl ?_
          | refine o_mov rfl ?_
          | refine o_load rfl rfl ?_
          | refine o_loadn rfl rfl rfl rfl ?_
          | refine o_store rfl rfl rfl rfl rfl rfl rfl ?_
          | refine o_faddrm rfl ?_
          | refine o_faddrv rfl rfl rfl ?_
          | refine o_idxarrm rfl rfl rfl ?_
          | refine o_alloc ?_
          | refine o_pickt rfl rfl ?_
          | refine o_pickf rfl rfl ?_
          | refine o_un rfl rfl ?_
          | refine o_len rfl rfl ?_
          | refine o_build rfl rfl ?_
          | refine o_bslice rfl rfl ?_
          | refine o_box rfl rfl ?_
          | refine o_minmax2 rfl rfl rfl ?_
          | refine o_field rfl rfl ?_
          | refine o_append rfl rfl rfl rfl ?_
          | refine o_extract rfl rfl ?_
          | refine o_lenc ?_
          | refine z_drawn0 env0_ok rfl rfl rfl ?_
          | refine o_bin (op := .add) rfl rfl rfl ?_
          | refine o_bin (op := .sub) rfl rfl rfl ?_
          | refine o_eqbt rfl rfl rfl ?_
          | refine o_eqbf rfl rfl rfl ?_
          | refine o_cmpt rfl rfl rfl ?_
          | refine o_cmpf rfl rfl rfl ?_
          | refine o_idxs rfl rfl (Int.natCast_nonneg i) ge rfl ?_)
        have ho : (both w (init ++ [(p, q)]) _ _ at_ true).out = init ++ [(p, q)] := if_neg fun x => hle x.2
        exact u_end ⟨rfl, _, sub_ren [(0, 0, [.bool _, .bool _]), (1, 0, [.int .i64 _, .int .i64 _]), (2, 0, (init.map rowP).flatten ++ [.int .i64 p, .int .i64 q])] rfl rfl (by simp) (.cons rfl rfl (ren_keep rfl) (.cons rfl rfl (ren_keep rfl) (.cons rfl rfl (ren_keep (hM2 init p q)) .nil))) (.cons rfl (.same rfl) (.cons rfl (.same rfl) (.cons rfl (.ms rfl) (.cons rfl (.mptr rfl) (.cons rfl (.mptr rfl) (.cons rfl (.same rfl) (.cons rfl (ren_eq (congrArg AV.bool (hon.trans ((congrArg openL ho).trans (openL_eq init p q)).symm)) rfl) (.cons rfl (ren_eq (congrArg (AV.int .i64) (wrap_succ i (by omega))) rfl) .nil)))))))), .some init p q ho⟩

end Go.Proofs.Ytofkihmckookjaa
