/-
  SPANS OF THE TWO-HAND SIGNAL: the law walked.
-/
import Derived.Test.YtofkihmckookjaaH10
namespace Go.Proofs.Ytofkihmckookjaa
open Go Go.Am

theorem awake5 : PF Try.prog 13 [] (.bool true) := tabA_ok _ (List.mem_cons_self ..) _ (List.mem_cons_self ..)

theorem evErr_win {l : List Ev} {v w : Int} (hv : 0 ≤ v ∧ v ≤ 65535) (hw : 0 ≤ w ∧ w ≤ 65535) : evErr l v = evErr l w := by
  unfold evErr
  rw [if_neg (show ¬ (v < 0 ∨ 1000000 < v) by omega), if_neg (show ¬ (w < 0 ∨ 1000000 < w) by omega)]

theorem err_chk {l : List Ev} {w : Int} (h : evErr l w = 0) : chk none l = 0 := by
  unfold evErr at h
  split at h
  · cases h
  · split at h
    · rename_i hc; exact absurd h hc
    · rename_i hc; simpa using hc

theorem scan_len' (w : Int) (l : List Ev) : (scan w l).out.length ≤ l.length := by
  have : ∀ (k : List Ev) (sg : Hd) (i : Nat), sg.out.length ≤ i → (k.foldl (hstep w) sg).out.length ≤ i + k.length := by
    intro k
    induction k with
    | nil => intro sg i h; simpa using h
    | cons e k ih =>
      intro sg i h
      have := ih (hstep w sg e) (i + 1) (hstep_len w sg e h)
      simp only [List.foldl_cons, List.length_cons]
      omega
  have := this l ⟨[], false, false, 0, 0, true⟩ 0 (Nat.le_refl _)
  unfold scan
  omega

def body5 : IC := .seq (.region [⟨(some 59), .bin .lss (.t 58) (.t 57), none⟩] none)
  (.seq (.cond (.t 59) (.skip)
  (.exit 0))
  (.seq (.block 1 (.seq (.region [⟨(some 60), .mov (.t 58), none⟩,
    ⟨(some 61), .idxs 2 (.t 56) (.t 58), none⟩,
    ⟨(some 62), .load (some 2) (.t 61), none⟩,
    ⟨(some 15), .alloc [.int .i64 0, .int .i64 0], none⟩,
    ⟨(some 14), .mov (.t 60), none⟩,
    ⟨none, .store 2 (.t 15) (.t 62), none⟩] none)
  (.seq (.seq (.region [⟨(some 63), .idxarr 2 1 (.t 15) (.c (.int .i64 0)), none⟩,
    ⟨(some 64), .load none (.t 63), none⟩,
    ⟨(some 65), .mov (.t 13), none⟩,
    ⟨(some 66), .bin .lss (.t 64) (.t 65), none⟩,
    ⟨(some 67), .mov (.t 66), none⟩,
    ⟨(some 68), .idxarr 2 1 (.t 15) (.c (.int .i64 1)), some (67, false)⟩,
    ⟨(some 69), .load none (.t 68), some (67, false)⟩,
    ⟨(some 70), .bin .neq (.t 69) (.c (.int .i64 (-1099511627776))), some (67, false)⟩,
    ⟨(some 71), .mov (.t 70), some (67, false)⟩,
    ⟨(some 72), .idxarr 2 1 (.t 15) (.c (.int .i64 1)), some (71, true)⟩,
    ⟨(some 73), .load none (.t 72), some (71, true)⟩,
    ⟨(some 74), .idxarr 2 1 (.t 15) (.c (.int .i64 0)), some (71, true)⟩,
    ⟨(some 75), .load none (.t 74), some (71, true)⟩,
    ⟨(some 76), .bin .lss (.t 73) (.t 75), some (71, true)⟩,
    ⟨(some 77), .pick (.t 71) (.t 76) (.c (.bool false)), some (67, false)⟩,
    ⟨(some 78), .pick (.t 67) (.c (.bool true)) (.t 77), none⟩,
    ⟨(some 79), .mov (.t 78), none⟩,
    ⟨(some 80), .idxarr 2 1 (.t 15) (.c (.int .i64 1)), some (79, false)⟩,
    ⟨(some 81), .load none (.t 80), some (79, false)⟩,
    ⟨(some 82), .bin .eql (.t 81) (.c (.int .i64 (-1099511627776))), some (79, false)⟩,
    ⟨(some 83), .mov (.t 82), some (79, false)⟩,
    ⟨(some 84), .mov (.t 14), some (83, true)⟩,
    ⟨(some 85), .mov (.t 9), some (83, true)⟩,
    ⟨(some 86), .len false (.t 85), some (83, true)⟩,
    ⟨(some 87), .bin .sub (.t 86) (.c (.int .i64 1)), some (83, true)⟩,
    ⟨(some 88), .bin .lss (.t 84) (.t 87), some (83, true)⟩,
    ⟨(some 89), .pick (.t 83) (.t 88) (.c (.bool false)), some (79, false)⟩,
    ⟨(some 90), .pick (.t 79) (.c (.bool true)) (.t 89), none⟩] none)
  (.cond (.t 90) (.seq (.region [⟨(some 6), .mov (.c (.bool false)), none⟩] none)
  (.ret))
  (.skip)))
  (.seq (.region [⟨(some 91), .idxarr 2 1 (.t 15) (.c (.int .i64 0)), none⟩,
    ⟨(some 92), .load none (.t 91), none⟩,
    ⟨(some 93), .idxarr 2 1 (.t 15) (.c (.int .i64 1)), none⟩,
    ⟨(some 94), .load none (.t 93), none⟩,
    ⟨(some 95), .minmax true [(.t 92), (.t 94)], none⟩,
    ⟨(some 13), .mov (.t 95), none⟩] none)
  (.seq (.region [⟨(some 96), .mov (.t 0), none⟩,
    ⟨(some 97), .mkfn 22 [] [(.t 15)], none⟩,
    ⟨(some 98), .call (.c (.fn 21 [] [])) [(.t 96), (.t 97)], none⟩,
    ⟨(some 16), .mov (.t 98), none⟩] none)
  (.seq (.region [⟨(some 99), .mov (.t 0), none⟩,
    ⟨(some 100), .mkfn 23 [] [(.t 15)], none⟩,
    ⟨(some 101), .call (.c (.fn 21 [] [])) [(.t 99), (.t 100)], none⟩,
    ⟨(some 17), .mov (.t 101), none⟩] none)
  (.seq (.region [⟨(some 102), .mov (.t 16), none⟩,
    ⟨(some 103), .un .not (.t 102), none⟩,
    ⟨(some 104), .mov (.t 103), none⟩,
    ⟨(some 105), .idxarr 2 1 (.t 15) (.c (.int .i64 1)), some (104, false)⟩,
    ⟨(some 106), .load none (.t 105), some (104, false)⟩,
    ⟨(some 107), .bin .neq (.t 106) (.c (.int .i64 (-1099511627776))), some (104, false)⟩,
    ⟨(some 108), .mov (.t 107), some (104, false)⟩,
    ⟨(some 109), .mov (.t 17), some (108, true)⟩,
    ⟨(some 110), .un .not (.t 109), some (108, true)⟩,
    ⟨(some 111), .pick (.t 108) (.t 110) (.c (.bool false)), some (104, false)⟩,
    ⟨(some 112), .pick (.t 104) (.c (.bool true)) (.t 111), none⟩] none)
  (.cond (.t 112) (.seq (.region [⟨(some 6), .mov (.c (.bool false)), none⟩] none)
  (.ret))
  (.skip)))))))))
  (.region [⟨(some 113), .bin .add (.t 58) (.c (.int .i64 1)), none⟩,
    ⟨(some 58), .mov (.t 113), none⟩] none)))

-- pneumatic/pneumaticlaw49.GuardSpans
def ic5 : IC := .seq (.region [⟨(some 6), .mov (.c (.bool false)), none⟩] none)
  (.seq (.region [⟨(some 18), .mov (.t 1), none⟩,
    ⟨(some 19), .mov (.t 2), none⟩,
    ⟨(some 20), .minmax false [(.t 18), (.t 19)], none⟩,
    ⟨(some 21), .conv .i64 (.t 20), none⟩,
    ⟨(some 22), .mov (.t 1), none⟩,
    ⟨(some 23), .mov (.t 2), none⟩,
    ⟨(some 24), .minmax true [(.t 22), (.t 23)], none⟩,
    ⟨(some 25), .conv .i64 (.t 24), none⟩,
    ⟨(some 7), .mov (.t 21), none⟩,
    ⟨(some 8), .mov (.t 25), none⟩] none)
  (.seq (.region [⟨(some 27), .mov (.t 0), none⟩,
    ⟨(some 28), .mov (.t 7), none⟩,
    ⟨(some 29), .call (.c (.fn 17 [] [])) [(.t 27), (.t 28)], none⟩,
    ⟨(some 26), .mov (.t 29), none⟩,
    ⟨(some 30), .extract (.t 26) 0, none⟩,
    ⟨(some 31), .extract (.t 26) 1, none⟩,
    ⟨(some 9), .mov (.t 30), none⟩,
    ⟨(some 10), .mov (.t 31), none⟩] none)
  (.seq (.region [⟨(some 33), .mov (.t 0), none⟩,
    ⟨(some 34), .mov (.t 8), none⟩,
    ⟨(some 35), .call (.c (.fn 17 [] [])) [(.t 33), (.t 34)], none⟩,
    ⟨(some 32), .mov (.t 35), none⟩,
    ⟨(some 36), .extract (.t 32) 0, none⟩,
    ⟨(some 37), .extract (.t 32) 1, none⟩,
    ⟨(some 11), .mov (.t 36), none⟩,
    ⟨(some 12), .mov (.t 37), none⟩] none)
  (.seq (.seq (.region [⟨(some 38), .mov (.t 0), none⟩,
    ⟨(some 39), .len false (.t 38), none⟩,
    ⟨(some 40), .bin .gtr (.t 39) (.c (.int .i64 200)), none⟩,
    ⟨(some 41), .mov (.t 40), none⟩,
    ⟨(some 42), .mov (.t 10), some (41, false)⟩,
    ⟨(some 43), .mov (.t 12), some (41, false)⟩,
    ⟨(some 44), .bin .neq (.t 42) (.t 43), some (41, false)⟩,
    ⟨(some 45), .pick (.t 41) (.c (.bool true)) (.t 44), none⟩,
    ⟨(some 46), .mov (.t 45), none⟩,
    ⟨(some 47), .mov (.t 10), some (46, false)⟩,
    ⟨(some 48), .bin .neq (.t 47) (.c (.int .i64 0)), some (46, false)⟩,
    ⟨(some 49), .pick (.t 46) (.c (.bool true)) (.t 48), none⟩] none)
  (.cond (.t 49) (.seq (.region [⟨(some 50), .mov (.t 10), none⟩,
    ⟨(some 51), .mov (.t 12), none⟩,
    ⟨(some 52), .bin .eql (.t 50) (.t 51), none⟩,
    ⟨(some 53), .mov (.t 52), none⟩,
    ⟨(some 54), .call (.c (.fn 13 [] [])) [], some (53, true)⟩,
    ⟨(some 55), .pick (.t 53) (.t 54) (.c (.bool false)), none⟩,
    ⟨(some 6), .mov (.t 55), none⟩] none)
  (.ret))
  (.skip)))
  (.seq (.region [⟨(some 13), .mov (.c (.int .i64 0)), none⟩] none)
  (.seq (.seq (.region [⟨(some 56), .mov (.t 9), none⟩,
    ⟨(some 57), .len false (.t 56), none⟩,
    ⟨(some 58), .mov (.c (.int .i64 0)), none⟩] none)
  (.block 0 (.loop body5)))
  (.seq (.region [⟨(some 114), .mov (.t 9), none⟩,
    ⟨(some 115), .len false (.t 114), none⟩,
    ⟨(some 116), .bin .eql (.t 115) (.c (.int .i64 0)), none⟩,
    ⟨(some 117), .mov (.t 116), none⟩,
    ⟨(some 118), .mov (.t 11), some (117, false)⟩,
    ⟨(some 119), .len false (.t 118), some (117, false)⟩,
    ⟨(some 120), .bin .gtr (.t 119) (.c (.int .i64 0)), some (117, false)⟩,
    ⟨(some 121), .mov (.t 120), some (117, false)⟩,
    ⟨(some 122), .mov (.t 11), some (121, true)⟩,
    ⟨(some 123), .idxs 2 (.t 122) (.c (.int .i64 0)), some (121, true)⟩,
    ⟨(some 124), .idxarr 2 1 (.t 123) (.c (.int .i64 0)), some (121, true)⟩,
    ⟨(some 125), .load none (.t 124), some (121, true)⟩,
    ⟨(some 126), .mov (.t 9), some (121, true)⟩,
    ⟨(some 127), .idxs 2 (.t 126) (.c (.int .i64 0)), some (121, true)⟩,
    ⟨(some 128), .idxarr 2 1 (.t 127) (.c (.int .i64 0)), some (121, true)⟩,
    ⟨(some 129), .load none (.t 128), some (121, true)⟩,
    ⟨(some 130), .bin .leq (.t 125) (.t 129), some (121, true)⟩,
    ⟨(some 131), .pick (.t 121) (.t 130) (.c (.bool false)), some (117, false)⟩,
    ⟨(some 132), .pick (.t 117) (.c (.bool true)) (.t 131), none⟩,
    ⟨(some 133), .mov (.t 132), none⟩,
    ⟨(some 134), .call (.c (.fn 13 [] [])) [], some (133, true)⟩,
    ⟨(some 135), .pick (.t 133) (.t 134) (.c (.bool false)), none⟩,
    ⟨(some 6), .mov (.t 135), none⟩] (some [[], [0], [1], [2], [3], [4, 3], [5, 3], [6, 3, 3], [7], [8, 7], [9, 7], [10, 7], [7], [12, 7], [13, 7], [14, 7], [11, 15, 7], [7, 16, 3], [3, 17], [18, 7], [19, 19], [19, 20], [21, 20, 0, 1, 2, 3, 4, 5, 6, 7, 8, 9, 10, 11, 12, 13, 14, 15, 16, 17, 18, 19, 20, 21]]))
  (.ret))))))))
theorem fn5 : env0.fn 5 = some ⟨136, ic5, [.t 6]⟩ := by kernel_rfl


set_option maxHeartbeats 4000000 in
theorem law5 (l : List Ev) (v w : Int) (hv : 0 ≤ v ∧ v ≤ 65535) (hw : 0 ≤ w ∧ w ≤ 65535) : PF Try.prog 5 [.vs (l.map rowE), .int .u16 v, .int .u16 w] (.bool true) := by
  have hlen : (l.map rowE).length = l.length := List.length_map ..
  obtain ⟨lo, hlo⟩ : ∃ lo, lo = if w < v then w else v := ⟨_, rfl⟩
  obtain ⟨hi, hhi⟩ : ∃ hi, hi = if w > v then w else v := ⟨_, rfl⟩
  have blo : 0 ≤ lo ∧ lo ≤ 65535 := by rw [hlo]; split <;> omega
  have bhi : 0 ≤ hi ∧ hi ≤ 65535 := by rw [hhi]; split <;> omega
  have hle : lo ≤ hi := by rw [hlo, hhi]; split <;> split <;> omega
  have elo : IntKind.wrap .i64 (if w < v then w else v) = lo := by rw [← hlo, wrap_small _ (by omega) (by omega)]
  have ehi : IntKind.wrap .i64 (if w > v then w else v) = hi := by rw [← hhi, wrap_small _ (by omega) (by omega)]
  have hee : evErr l hi = evErr l lo := evErr_win bhi blo
  refine PF_of_Z env0_ok fn5 [(0, .vs (l.map rowE)), (1, .int .u16 v), (2, .int .u16 w)] (by show 3 ≤ 136; decide) rfl fun w0 N0 => ?_
  unfold ic5
  repeat (first
    | refine z_seq ?_
    | refine z_region rfl ?_
    | refine o_nil ?_
    | refine u_seq ?_
    | refine u_blk ?_
    | refine z_block ?_
    | refine z_skip ?_
    | refine z_ct rfl ?_
    | refine z_cf rfl ?_
    | refine z_exit ?_
    | refine z_ret ?_
    | refine u_exit ?_
    | refine u_exit_seq ?_
    | refine u_exit_other rfl ?_
    | refine u_ret_seq ?_
    | refine u_ret_blk ?_
    | refine o_gy rfl ?_
    | refine o_gn rfl rfl ?_
    | refine o_gt rfl ?_
    | refine o_mov rfl ?_
    | refine o_load rfl rfl ?_
    | refine o_loadn rfl rfl rfl rfl ?_
    | refine o_store rfl rfl rfl rfl rfl rfl rfl ?_
    | refine o_faddrm rfl ?_
    | refine o_faddrv rfl rfl rfl ?_
    | refine o_idxarrm rfl rfl rfl ?_
    | refine o_idxarrv rfl rfl rfl rfl ?_
    | refine o_alloc ?_
    | refine o_pickt rfl rfl ?_
    | refine o_pickf rfl rfl ?_
    | refine o_un rfl rfl ?_
    | refine o_len rfl rfl ?_
    | refine o_build rfl rfl ?_
    | refine o_bslice rfl rfl ?_
    | refine o_box rfl rfl ?_
    | refine o_minmax2 rfl rfl rfl ?_
    | refine o_field rfl rfl ?_
    | refine o_append rfl rfl rfl rfl ?_
    | refine o_extract rfl rfl ?_
    | refine o_lenc ?_
    | refine z_drawn0 env0_ok rfl rfl rfl ?_
    | refine o_bin (op := .add) rfl rfl rfl ?_
    | refine o_bin (op := .sub) rfl rfl rfl ?_
    | refine o_eqbt rfl rfl rfl ?_
    | refine o_eqbf rfl rfl rfl ?_
    | refine o_cmpt rfl rfl rfl ?_
    | refine o_cmpf rfl rfl rfl ?_
    | refine o_conv rfl rfl ?_
    | refine o_mkfn rfl rfl ?_)
  refine o_call rfl (congrArg (fun z => [AV.vs (l.map rowE), AV.int .i64 z]) elo) (two17 l lo) (fun h => Bool.noConfusion (show false = true from h)) ?_
  by_cases he : evErr l lo = 0
  · have g1 : twoRes l lo = .tup [.vs ((scan lo l).out.map rowP), .int .i64 0] := if_pos he
    have g2 : twoRes l hi = .tup [.vs ((scan hi l).out.map rowP), .int .i64 0] := if_pos (hee.trans he)
    have hck := err_chk he
    have hsp := scan_spans lo l hck
    have hso := scan_sooner hle l hck
    rw [g1]
    have hxb := scan_len' lo l
    generalize (scan lo l).out = x at hsp hso hxb
    repeat (first
      | refine z_seq ?_
      | refine z_region rfl ?_
      | refine o_nil ?_
      | refine u_seq ?_
      | refine u_blk ?_
      | refine z_block ?_
      | refine z_skip ?_
      | refine z_ct rfl ?_
      | refine z_cf rfl ?_
      | refine z_exit ?_
      | refine z_ret ?_
      | refine u_exit ?_
      | refine u_exit_seq ?_
      | refine u_exit_other rfl ?_
      | refine u_ret_seq ?_
      | refine u_ret_blk ?_
      | refine o_gy rfl ?_
      | refine o_gn rfl rfl ?_
      | refine o_gt rfl ?_
      | refine o_mov rfl ?_
      | refine o_load rfl rfl ?_
      | refine o_loadn rfl rfl rfl rfl ?_
      | refine o_store rfl rfl rfl rfl rfl rfl rfl ?_
      | refine o_faddrm rfl ?_
      | refine o_faddrv rfl rfl rfl ?_
      | refine o_idxarrm rfl rfl rfl ?_
      | refine o_idxarrv rfl rfl rfl rfl ?_
      | refine o_alloc ?_
      | refine o_pickt rfl rfl ?_
      | refine o_pickf rfl rfl ?_
      | refine o_un rfl rfl ?_
      | refine o_len rfl rfl ?_
      | refine o_build rfl rfl ?_
      | refine o_bslice rfl rfl ?_
      | refine o_box rfl rfl ?_
      | refine o_minmax2 rfl rfl rfl ?_
      | refine o_field rfl rfl ?_
      | refine o_append rfl rfl rfl rfl ?_
      | refine o_extract rfl rfl ?_
      | refine o_lenc ?_
      | refine z_drawn0 env0_ok rfl rfl rfl ?_
      | refine o_bin (op := .add) rfl rfl rfl ?_
      | refine o_bin (op := .sub) rfl rfl rfl ?_
      | refine o_eqbt rfl rfl rfl ?_
      | refine o_eqbf rfl rfl rfl ?_
      | refine o_cmpt rfl rfl rfl ?_
      | refine o_cmpf rfl rfl rfl ?_
      | refine o_conv rfl rfl ?_
      | refine o_mkfn rfl rfl ?_)
    refine o_call rfl (congrArg (fun z => [AV.vs (l.map rowE), AV.int .i64 z]) ehi) (two17 l hi) (fun h => Bool.noConfusion (show false = true from h)) ?_
    rw [g2]
    generalize (scan hi l).out = y at hso
    repeat (first
      | refine z_seq ?_
      | refine z_region rfl ?_
      | refine o_nil ?_
      | refine u_seq ?_
      | refine u_blk ?_
      | refine z_block ?_
      | refine z_skip ?_
      | refine z_ct rfl ?_
      | refine z_cf rfl ?_
      | refine z_exit ?_
      | refine z_ret ?_
      | refine u_exit ?_
      | refine u_exit_seq ?_
      | refine u_exit_other rfl ?_
      | refine u_ret_seq ?_
      | refine u_ret_blk ?_
      | refine o_gy rfl ?_
      | refine o_gn rfl rfl ?_
      | refine o_gt rfl ?_
      | refine o_mov rfl ?_
      | refine o_load rfl rfl ?_
      | refine o_loadn rfl rfl rfl rfl ?_
      | refine o_store rfl rfl rfl rfl rfl rfl rfl ?_
      | refine o_faddrm rfl ?_
      | refine o_faddrv rfl rfl rfl ?_
      | refine o_idxarrm rfl rfl rfl ?_
      | refine o_idxarrv rfl rfl rfl rfl ?_
      | refine o_alloc ?_
      | refine o_pickt rfl rfl ?_
      | refine o_pickf rfl rfl ?_
      | refine o_un rfl rfl ?_
      | refine o_len rfl rfl ?_
      | refine o_build rfl rfl ?_
      | refine o_bslice rfl rfl ?_
      | refine o_box rfl rfl ?_
      | refine o_minmax2 rfl rfl rfl ?_
      | refine o_field rfl rfl ?_
      | refine o_append rfl rfl rfl rfl ?_
      | refine o_extract rfl rfl ?_
      | refine o_lenc ?_
      | refine z_drawn0 env0_ok rfl rfl rfl ?_
      | refine o_bin (op := .add) rfl rfl rfl ?_
      | refine o_bin (op := .sub) rfl rfl rfl ?_
      | refine o_eqbt rfl rfl rfl ?_
      | refine o_eqbf rfl rfl rfl ?_
      | refine o_cmpt rfl rfl rfl ?_
      | refine o_cmpf rfl rfl rfl ?_
      | refine o_conv rfl rfl ?_
      | refine o_mkfn rfl rfl ?_)
    refine o_cmp rfl rfl rfl (fun h1 => ?_) fun h1 => ?_
    · repeat (first
        | refine z_seq ?_
        | refine z_region rfl ?_
        | refine o_nil ?_
        | refine u_seq ?_
        | refine u_blk ?_
        | refine z_block ?_
        | refine z_skip ?_
        | refine z_ct rfl ?_
        | refine z_cf rfl ?_
        | refine z_exit ?_
        | refine z_ret ?_
        | refine u_exit ?_
        | refine u_exit_seq ?_
        | refine u_exit_other rfl ?_
        | refine u_ret_seq ?_
        | refine u_ret_blk ?_
        | refine o_gy rfl ?_
        | refine o_gn rfl rfl ?_
        | refine o_gt rfl ?_
        | refine o_mov rfl ?_
        | refine o_load rfl rfl ?_
        | refine o_loadn rfl rfl rfl rfl ?_
        | refine o_store rfl rfl rfl rfl rfl rfl rfl ?_
        | refine o_faddrm rfl ?_
        | refine o_faddrv rfl rfl rfl ?_
        | refine o_idxarrm rfl rfl rfl ?_
        | refine o_idxarrv rfl rfl rfl rfl ?_
        | refine o_alloc ?_
        | refine o_pickt rfl rfl ?_
        | refine o_pickf rfl rfl ?_
        | refine o_un rfl rfl ?_
        | refine o_len rfl rfl ?_
        | refine o_build rfl rfl ?_
        | refine o_bslice rfl rfl ?_
        | refine o_box rfl rfl ?_
        | refine o_minmax2 rfl rfl rfl ?_
        | refine o_field rfl rfl ?_
        | refine o_append rfl rfl rfl rfl ?_
        | refine o_extract rfl rfl ?_
        | refine o_lenc ?_
        | refine z_drawn0 env0_ok rfl rfl rfl ?_
        | refine o_bin (op := .add) rfl rfl rfl ?_
        | refine o_bin (op := .sub) rfl rfl rfl ?_
        | refine o_eqbt rfl rfl rfl ?_
        | refine o_eqbf rfl rfl rfl ?_
        | refine o_cmpt rfl rfl rfl ?_
        | refine o_cmpf rfl rfl rfl ?_
        | refine o_conv rfl rfl ?_
        | refine o_mkfn rfl rfl ?_
        | refine o_call rfl rfl awake5 (fun h => Bool.noConfusion (show false = true from h)) ?_)
      exact u_end ⟨.inr rfl, _, rfl, rfl⟩
    have hl : l.length ≤ 600 := by
      have := of_decide_eq_false h1
      omega
    repeat (first
      | refine z_seq ?_
      | refine z_region rfl ?_
      | refine o_nil ?_
      | refine u_seq ?_
      | refine u_blk ?_
      | refine z_block ?_
      | refine z_skip ?_
      | refine z_ct rfl ?_
      | refine z_cf rfl ?_
      | refine z_exit ?_
      | refine z_ret ?_
      | refine u_exit ?_
      | refine u_exit_seq ?_
      | refine u_exit_other rfl ?_
      | refine u_ret_seq ?_
      | refine u_ret_blk ?_
      | refine o_gy rfl ?_
      | refine o_gn rfl rfl ?_
      | refine o_gt rfl ?_
      | refine o_mov rfl ?_
      | refine o_load rfl rfl ?_
      | refine o_loadn rfl rfl rfl rfl ?_
      | refine o_store rfl rfl rfl rfl rfl rfl rfl ?_
      | refine o_faddrm rfl ?_
      | refine o_faddrv rfl rfl rfl ?_
      | refine o_idxarrm rfl rfl rfl ?_
      | refine o_idxarrv rfl rfl rfl rfl ?_
      | refine o_alloc ?_
      | refine o_pickt rfl rfl ?_
      | refine o_pickf rfl rfl ?_
      | refine o_un rfl rfl ?_
      | refine o_len rfl rfl ?_
      | refine o_build rfl rfl ?_
      | refine o_bslice rfl rfl ?_
      | refine o_box rfl rfl ?_
      | refine o_minmax2 rfl rfl rfl ?_
      | refine o_field rfl rfl ?_
      | refine o_append rfl rfl rfl rfl ?_
      | refine o_extract rfl rfl ?_
      | refine o_lenc ?_
      | refine z_drawn0 env0_ok rfl rfl rfl ?_
      | refine o_bin (op := .add) rfl rfl rfl ?_
      | refine o_bin (op := .sub) rfl rfl rfl ?_
      | refine o_eqbt rfl rfl rfl ?_
      | refine o_eqbf rfl rfl rfl ?_
      | refine o_cmpt rfl rfl rfl ?_
      | refine o_cmpf rfl rfl rfl ?_
      | refine o_conv rfl rfl ?_
      | refine o_mkfn rfl rfl ?_)
    have hxl : (x.map rowP).length = x.length := List.length_map ..
    have hyl : (y.map rowP).length = y.length := List.length_map ..
    refine z_loop (fun m S => ∃ i last, m = x.length - i ∧ i ≤ x.length ∧ spansOk l last (x.drop i) = true ∧
       S = st 136 [(0, .vs (l.map rowE)), (9, .vs (x.map rowP)), (11, .vs (y.map rowP)), (13, .int .i64 last), (56, .vs (x.map rowP)), (57, .int .i64 (x.map rowP).length), (58, .int .i64 (i : Nat))] [] 0 1) x.length
      (sub_ren0 (.cons rfl (.same rfl) (.cons rfl (.same rfl) (.cons rfl (.same rfl) (.cons rfl (.same rfl) (.cons rfl (.same rfl) (.cons rfl (.same rfl) (.cons rfl (.same rfl) .nil)))))))) ⟨0, 0, rfl, Nat.zero_le _, hsp, rfl⟩ ?_
    rintro m S ⟨i, last, rfl, hi, hs, rfl⟩
    unfold body5
    repeat (first
      | refine z_seq ?_
      | refine z_region rfl ?_
      | refine o_nil ?_
      | refine u_seq ?_
      | refine u_blk ?_
      | refine z_block ?_
      | refine z_skip ?_
      | refine z_ct rfl ?_
      | refine z_cf rfl ?_
      | refine z_exit ?_
      | refine z_ret ?_
      | refine u_exit ?_
      | refine u_exit_seq ?_
      | refine u_exit_other rfl ?_
      | refine u_ret_seq ?_
      | refine u_ret_blk ?_
      | refine o_gy rfl ?_
      | refine o_gn rfl rfl ?_
      | refine o_gt rfl ?_
      | refine o_mov rfl ?_
      | refine o_load rfl rfl ?_
      | refine o_loadn rfl rfl rfl rfl ?_
      | refine o_store rfl rfl rfl rfl rfl rfl rfl ?_
      | refine o_faddrm rfl ?_
      | refine o_faddrv rfl rfl rfl ?_
      | refine o_idxarrm rfl rfl rfl ?_
      | refine o_idxarrv rfl rfl rfl rfl ?_
      | refine o_alloc ?_
      | refine o_pickt rfl rfl ?_
      | refine o_pickf rfl rfl ?_
      | refine o_un rfl rfl ?_
      | refine o_len rfl rfl ?_
      | refine o_build rfl rfl ?_
      | refine o_bslice rfl rfl ?_
      | refine o_box rfl rfl ?_
      | refine o_minmax2 rfl rfl rfl ?_
      | refine o_field rfl rfl ?_
      | refine o_append rfl rfl rfl rfl ?_
      | refine o_extract rfl rfl ?_
      | refine o_lenc ?_
      | refine z_drawn0 env0_ok rfl rfl rfl ?_
      | refine o_bin (op := .add) rfl rfl rfl ?_
      | refine o_bin (op := .sub) rfl rfl rfl ?_
      | refine o_eqbt rfl rfl rfl ?_
      | refine o_eqbf rfl rfl rfl ?_
      | refine o_cmpt rfl rfl rfl ?_
      | refine o_cmpf rfl rfl rfl ?_
      | refine o_conv rfl rfl ?_
      | refine o_mkfn rfl rfl ?_)
    refine o_cmp rfl rfl rfl (fun h2 => ?_) fun h2 => ?_
    · have hlt : i < x.length := by
        have := of_decide_eq_true h2
        omega
      have ge : (x.map rowP)[((i : Nat) : Int).toNat]? = some (rowP x[i]) := by simp [hlt]
      have hd : x.drop i = x[i] :: x.drop (i + 1) := List.drop_eq_getElem_cons hlt
      rw [hd] at hs
      generalize x[i] = sp at ge hs
      obtain ⟨p, q⟩ := sp
      simp only [spansOk, Bool.and_eq_true, Bool.or_eq_true, Bool.not_eq_true', decide_eq_true_eq, decide_eq_false_iff_not] at hs
      obtain ⟨⟨⟨⟨⟨a1, a2⟩, a3⟩, a4⟩, a5⟩, a6⟩ := hs
      have cp : PF Try.prog 21 [.vs (l.map rowE), .fn 22 [] [.vptr (rowP (p, q))]] (.bool true) := by
        rw [← a4]; exact contains21 l (pressAt p) 22 _ hl fun e => press22 e p q
      have cr : PF Try.prog 21 [.vs (l.map rowE), .fn 23 [] [.vptr (rowP (p, q))]] (.bool (l.any (releaseAt q))) := contains21 l (releaseAt q) 23 _ hl fun e => release23 e p q
      repeat (first
        | refine z_seq ?_
        | refine z_region rfl ?_
        | refine o_nil ?_
        | refine u_seq ?_
        | refine u_blk ?_
        | refine z_block ?_
        | refine z_skip ?_
        | refine z_ct rfl ?_
        | refine z_cf rfl ?_
        | refine z_exit ?_
        | refine z_ret ?_
        | refine u_exit ?_
        | refine u_exit_seq ?_
        | refine u_exit_other rfl ?_
        | refine u_ret_seq ?_
        | refine u_ret_blk ?_
        | refine o_gy rfl ?_
        | refine o_gn rfl rfl ?_
        | refine o_gt rfl ?_
        | refine o_mov rfl ?_
        | refine o_load rfl rfl ?_
        | refine o_loadn rfl rfl rfl rfl ?_
        | refine o_store rfl rfl rfl rfl rfl rfl rfl ?_
        | refine o_faddrm rfl ?_
        | refine o_faddrv rfl rfl rfl ?_
        | refine o_idxarrm rfl rfl rfl ?_
        | refine o_idxarrv rfl rfl rfl rfl ?_
        | refine o_alloc ?_
        | refine o_pickt rfl rfl ?_
        | refine o_pickf rfl rfl ?_
        | refine o_un rfl rfl ?_
        | refine o_len rfl rfl ?_
        | refine o_build rfl rfl ?_
        | refine o_bslice rfl rfl ?_
        | refine o_box rfl rfl ?_
        | refine o_minmax2 rfl rfl rfl ?_
        | refine o_field rfl rfl ?_
        | refine o_append rfl rfl rfl rfl ?_
        | refine o_extract rfl rfl ?_
        | refine o_lenc ?_
        | refine z_drawn0 env0_ok rfl rfl rfl ?_
        | refine o_bin (op := .add) rfl rfl rfl ?_
        | refine o_bin (op := .sub) rfl rfl rfl ?_
        | refine o_eqbt rfl rfl rfl ?_
        | refine o_eqbf rfl rfl rfl ?_
        | refine o_cmpt rfl rfl rfl ?_
        | refine o_cmpf rfl rfl rfl ?_
        | refine o_conv rfl rfl ?_
        | refine o_mkfn rfl rfl ?_)
      refine o_idxs rfl rfl (Int.natCast_nonneg i) ge rfl ?_
      repeat (first
        | refine z_seq ?_
        | refine z_region rfl ?_
        | refine o_nil ?_
        | refine u_seq ?_
        | refine u_blk ?_
        | refine z_block ?_
        | refine z_skip ?_
        | refine z_ct rfl ?_
        | refine z_cf rfl ?_
        | refine z_exit ?_
        | refine z_ret ?_
        | refine u_exit ?_
        | refine u_exit_seq ?_
        | refine u_exit_other rfl ?_
        | refine u_ret_seq ?_
        | refine u_ret_blk ?_
        | refine o_gy rfl ?_
        | refine o_gn rfl rfl ?_
        | refine o_gt rfl ?_
        | refine o_mov rfl ?_
        | refine o_load rfl rfl ?_
        | refine o_loadn rfl rfl rfl rfl ?_
        | refine o_store rfl rfl rfl rfl rfl rfl rfl ?_
        | refine o_faddrm rfl ?_
        | refine o_faddrv rfl rfl rfl ?_
        | refine o_idxarrm rfl rfl rfl ?_
        | refine o_idxarrv rfl rfl rfl rfl ?_
        | refine o_alloc ?_
        | refine o_pickt rfl rfl ?_
        | refine o_pickf rfl rfl ?_
        | refine o_un rfl rfl ?_
        | refine o_len rfl rfl ?_
        | refine o_build rfl rfl ?_
        | refine o_bslice rfl rfl ?_
        | refine o_box rfl rfl ?_
        | refine o_minmax2 rfl rfl rfl ?_
        | refine o_field rfl rfl ?_
        | refine o_append rfl rfl rfl rfl ?_
        | refine o_extract rfl rfl ?_
        | refine o_lenc ?_
        | refine z_drawn0 env0_ok rfl rfl rfl ?_
        | refine o_bin (op := .add) rfl rfl rfl ?_
        | refine o_bin (op := .sub) rfl rfl rfl ?_
        | refine o_eqbt rfl rfl rfl ?_
        | refine o_eqbf rfl rfl rfl ?_
        | refine o_cmpt rfl rfl rfl ?_
        | refine o_cmpf rfl rfl rfl ?_
        | refine o_conv rfl rfl ?_
        | refine o_mkfn rfl rfl ?_)
      refine o_cmp rfl rfl rfl (fun h3 => absurd (of_decide_eq_true h3) a1) fun _ => ?_
      repeat (first
        | refine z_seq ?_
        | refine z_region rfl ?_
        | refine o_nil ?_
        | refine u_seq ?_
        | refine u_blk ?_
        | refine z_block ?_
        | refine z_skip ?_
        | refine z_ct rfl ?_
        | refine z_cf rfl ?_
        | refine z_exit ?_
        | refine z_ret ?_
        | refine u_exit ?_
        | refine u_exit_seq ?_
        | refine u_exit_other rfl ?_
        | refine u_ret_seq ?_
        | refine u_ret_blk ?_
        | refine o_gy rfl ?_
        | refine o_gn rfl rfl ?_
        | refine o_gt rfl ?_
        | refine o_mov rfl ?_
        | refine o_load rfl rfl ?_
        | refine o_loadn rfl rfl rfl rfl ?_
        | refine o_store rfl rfl rfl rfl rfl rfl rfl ?_
        | refine o_faddrm rfl ?_
        | refine o_faddrv rfl rfl rfl ?_
        | refine o_idxarrm rfl rfl rfl ?_
        | refine o_idxarrv rfl rfl rfl rfl ?_
        | refine o_alloc ?_
        | refine o_pickt rfl rfl ?_
        | refine o_pickf rfl rfl ?_
        | refine o_un rfl rfl ?_
        | refine o_len rfl rfl ?_
        | refine o_build rfl rfl ?_
        | refine o_bslice rfl rfl ?_
        | refine o_box rfl rfl ?_
        | refine o_minmax2 rfl rfl rfl ?_
        | refine o_field rfl rfl ?_
        | refine o_append rfl rfl rfl rfl ?_
        | refine o_extract rfl rfl ?_
        | refine o_lenc ?_
        | refine z_drawn0 env0_ok rfl rfl rfl ?_
        | refine o_bin (op := .add) rfl rfl rfl ?_
        | refine o_bin (op := .sub) rfl rfl rfl ?_
        | refine o_eqbt rfl rfl rfl ?_
        | refine o_eqbf rfl rfl rfl ?_
        | refine o_cmpt rfl rfl rfl ?_
        | refine o_cmpf rfl rfl rfl ?_
        | refine o_conv rfl rfl ?_
        | refine o_mkfn rfl rfl ?_)
      by_cases hq : q = -1099511627776
      · subst hq
        repeat (first
          | refine z_seq ?_
          | refine z_region rfl ?_
          | refine o_nil ?_
          | refine u_seq ?_
          | refine u_blk ?_
          | refine z_block ?_
          | refine z_skip ?_
          | refine z_ct rfl ?_
          | refine z_cf rfl ?_
          | refine z_exit ?_
          | refine z_ret ?_
          | refine u_exit ?_
          | refine u_exit_seq ?_
          | refine u_exit_other rfl ?_
          | refine u_ret_seq ?_
          | refine u_ret_blk ?_
          | refine o_gy rfl ?_
          | refine o_gn rfl rfl ?_
          | refine o_gt rfl ?_
          | refine o_mov rfl ?_
          | refine o_load rfl rfl ?_
          | refine o_loadn rfl rfl rfl rfl ?_
          | refine o_store rfl rfl rfl rfl rfl rfl rfl ?_
          | refine o_faddrm rfl ?_
          | refine o_faddrv rfl rfl rfl ?_
          | refine o_idxarrm rfl rfl rfl ?_
          | refine o_idxarrv rfl rfl rfl rfl ?_
          | refine o_alloc ?_
          | refine o_pickt rfl rfl ?_
          | refine o_pickf rfl rfl ?_
          | refine o_un rfl rfl ?_
          | refine o_len rfl rfl ?_
          | refine o_build rfl rfl ?_
          | refine o_bslice rfl rfl ?_
          | refine o_box rfl rfl ?_
          | refine o_minmax2 rfl rfl rfl ?_
          | refine o_field rfl rfl ?_
          | refine o_append rfl rfl rfl rfl ?_
          | refine o_extract rfl rfl ?_
          | refine o_lenc ?_
          | refine z_drawn0 env0_ok rfl rfl rfl ?_
          | refine o_bin (op := .add) rfl rfl rfl ?_
          | refine o_bin (op := .sub) rfl rfl rfl ?_
          | refine o_eqbt rfl rfl rfl ?_
          | refine o_eqbf rfl rfl rfl ?_
          | refine o_cmpt rfl rfl rfl ?_
          | refine o_cmpf rfl rfl rfl ?_
          | refine o_conv rfl rfl ?_
          | refine o_mkfn rfl rfl ?_)
        have hend : i + 1 = x.length := by
          have h4 : (x.drop (i + 1)).isEmpty = true := a3.resolve_left fun h => absurd rfl h
          have := List.isEmpty_iff.1 h4
          have := List.drop_eq_nil_iff.1 this
          omega
        have hnl : ¬ (((i : Nat) : Int) < IntKind.wrap .i64 (((x.map rowP).length : Int) - 1)) := by
          rw [hxl, wrap_small _ (by omega) (by omega)]; omega
        refine o_cmp rfl rfl rfl (fun h3 => absurd (of_decide_eq_true h3) hnl) fun _ => ?_
        repeat (first
          | refine z_seq ?_
          | refine z_region rfl ?_
          | refine o_nil ?_
          | refine u_seq ?_
          | refine u_blk ?_
          | refine z_block ?_
          | refine z_skip ?_
          | refine z_ct rfl ?_
          | refine z_cf rfl ?_
          | refine z_exit ?_
          | refine z_ret ?_
          | refine u_exit ?_
          | refine u_exit_seq ?_
          | refine u_exit_other rfl ?_
          | refine u_ret_seq ?_
          | refine u_ret_blk ?_
          | refine o_gy rfl ?_
          | refine o_gn rfl rfl ?_
          | refine o_gt rfl ?_
          | refine o_mov rfl ?_
          | refine o_load rfl rfl ?_
          | refine o_loadn rfl rfl rfl rfl ?_
          | refine o_store rfl rfl rfl rfl rfl rfl rfl ?_
          | refine o_faddrm rfl ?_
          | refine o_faddrv rfl rfl rfl ?_
          | refine o_idxarrm rfl rfl rfl ?_
          | refine o_idxarrv rfl rfl rfl rfl ?_
          | refine o_alloc ?_
          | refine o_pickt rfl rfl ?_
          | refine o_pickf rfl rfl ?_
          | refine o_un rfl rfl ?_
          | refine o_len rfl rfl ?_
          | refine o_build rfl rfl ?_
          | refine o_bslice rfl rfl ?_
          | refine o_box rfl rfl ?_
          | refine o_minmax2 rfl rfl rfl ?_
          | refine o_field rfl rfl ?_
          | refine o_append rfl rfl rfl rfl ?_
          | refine o_extract rfl rfl ?_
          | refine o_lenc ?_
          | refine z_drawn0 env0_ok rfl rfl rfl ?_
          | refine o_bin (op := .add) rfl rfl rfl ?_
          | refine o_bin (op := .sub) rfl rfl rfl ?_
          | refine o_eqbt rfl rfl rfl ?_
          | refine o_eqbf rfl rfl rfl ?_
          | refine o_cmpt rfl rfl rfl ?_
          | refine o_cmpf rfl rfl rfl ?_
          | refine o_conv rfl rfl ?_
          | refine o_mkfn rfl rfl ?_)
        refine o_call rfl rfl cp (fun _ => rfl) ?_
        repeat (first
          | refine z_seq ?_
          | refine z_region rfl ?_
          | refine o_nil ?_
          | refine u_seq ?_
          | refine u_blk ?_
          | refine z_block ?_
          | refine z_skip ?_
          | refine z_ct rfl ?_
          | refine z_cf rfl ?_
          | refine z_exit ?_
          | refine z_ret ?_
          | refine u_exit ?_
          | refine u_exit_seq ?_
          | refine u_exit_other rfl ?_
          | refine u_ret_seq ?_
          | refine u_ret_blk ?_
          | refine o_gy rfl ?_
          | refine o_gn rfl rfl ?_
          | refine o_gt rfl ?_
          | refine o_mov rfl ?_
          | refine o_load rfl rfl ?_
          | refine o_loadn rfl rfl rfl rfl ?_
          | refine o_store rfl rfl rfl rfl rfl rfl rfl ?_
          | refine o_faddrm rfl ?_
          | refine o_faddrv rfl rfl rfl ?_
          | refine o_idxarrm rfl rfl rfl ?_
          | refine o_idxarrv rfl rfl rfl rfl ?_
          | refine o_alloc ?_
          | refine o_pickt rfl rfl ?_
          | refine o_pickf rfl rfl ?_
          | refine o_un rfl rfl ?_
          | refine o_len rfl rfl ?_
          | refine o_build rfl rfl ?_
          | refine o_bslice rfl rfl ?_
          | refine o_box rfl rfl ?_
          | refine o_minmax2 rfl rfl rfl ?_
          | refine o_field rfl rfl ?_
          | refine o_append rfl rfl rfl rfl ?_
          | refine o_extract rfl rfl ?_
          | refine o_lenc ?_
          | refine z_drawn0 env0_ok rfl rfl rfl ?_
          | refine o_bin (op := .add) rfl rfl rfl ?_
          | refine o_bin (op := .sub) rfl rfl rfl ?_
          | refine o_eqbt rfl rfl rfl ?_
          | refine o_eqbf rfl rfl rfl ?_
          | refine o_cmpt rfl rfl rfl ?_
          | refine o_cmpf rfl rfl rfl ?_
          | refine o_conv rfl rfl ?_
          | refine o_mkfn rfl rfl ?_)
        refine o_call rfl rfl cr (fun _ => rfl) ?_
        repeat (first
          | refine z_seq ?_
          | refine z_region rfl ?_
          | refine o_nil ?_
          | refine u_seq ?_
          | refine u_blk ?_
          | refine z_block ?_
          | refine z_skip ?_
          | refine z_ct rfl ?_
          | refine z_cf rfl ?_
          | refine z_exit ?_
          | refine z_ret ?_
          | refine u_exit ?_
          | refine u_exit_seq ?_
          | refine u_exit_other rfl ?_
          | refine u_ret_seq ?_
          | refine u_ret_blk ?_
          | refine o_gy rfl ?_
          | refine o_gn rfl rfl ?_
          | refine o_gt rfl ?_
          | refine o_mov rfl ?_
          | refine o_load rfl rfl ?_
          | refine o_loadn rfl rfl rfl rfl ?_
          | refine o_store rfl rfl rfl rfl rfl rfl rfl ?_
          | refine o_faddrm rfl ?_
          | refine o_faddrv rfl rfl rfl ?_
          | refine o_idxarrm rfl rfl rfl ?_
          | refine o_idxarrv rfl rfl rfl rfl ?_
          | refine o_alloc ?_
          | refine o_pickt rfl rfl ?_
          | refine o_pickf rfl rfl ?_
          | refine o_un rfl rfl ?_
          | refine o_len rfl rfl ?_
          | refine o_build rfl rfl ?_
          | refine o_bslice rfl rfl ?_
          | refine o_box rfl rfl ?_
          | refine o_minmax2 rfl rfl rfl ?_
          | refine o_field rfl rfl ?_
          | refine o_append rfl rfl rfl rfl ?_
          | refine o_extract rfl rfl ?_
          | refine o_lenc ?_
          | refine z_drawn0 env0_ok rfl rfl rfl ?_
          | refine o_bin (op := .add) rfl rfl rfl ?_
          | refine o_bin (op := .sub) rfl rfl rfl ?_
          | refine o_eqbt rfl rfl rfl ?_
          | refine o_eqbf rfl rfl rfl ?_
          | refine o_cmpt rfl rfl rfl ?_
          | refine o_cmpf rfl rfl rfl ?_
          | refine o_conv rfl rfl ?_
          | refine o_mkfn rfl rfl ?_)
        exact u_round (show x.length - (i + 1) < x.length - i by omega) (sub_ren0 (.cons rfl (.same rfl) (.cons rfl (.same rfl) (.cons rfl (.same rfl) (.cons rfl (.same rfl) (.cons rfl (.same rfl) (.cons rfl (.same rfl) (.cons rfl (ren_eq (congrArg (AV.int .i64) (wrap_succ i (by omega))) rfl) .nil)))))))) ⟨i + 1, _, rfl, hlt, a6, rfl⟩
      · have q1 : (q != -1099511627776) = true := by simpa using hq
        have q2 : decide (q = -1099511627776) = false := decide_eq_false hq
        have b2 := a2.resolve_left hq
        have b5 := a5.resolve_left hq
        rw [b5] at cr
        refine o_cmp rfl rfl rfl (fun _ => ?_) fun h3 => absurd q1 (by rw [show (q != -1099511627776) = false from h3]; decide)
        repeat (first
          | refine z_seq ?_
          | refine z_region rfl ?_
          | refine o_nil ?_
          | refine u_seq ?_
          | refine u_blk ?_
          | refine z_block ?_
          | refine z_skip ?_
          | refine z_ct rfl ?_
          | refine z_cf rfl ?_
          | refine z_exit ?_
          | refine z_ret ?_
          | refine u_exit ?_
          | refine u_exit_seq ?_
          | refine u_exit_other rfl ?_
          | refine u_ret_seq ?_
          | refine u_ret_blk ?_
          | refine o_gy rfl ?_
          | refine o_gn rfl rfl ?_
          | refine o_gt rfl ?_
          | refine o_mov rfl ?_
          | refine o_load rfl rfl ?_
          | refine o_loadn rfl rfl rfl rfl ?_
          | refine o_store rfl rfl rfl rfl rfl rfl rfl ?_
          | refine o_faddrm rfl ?_
          | refine o_faddrv rfl rfl rfl ?_
          | refine o_idxarrm rfl rfl rfl ?_
          | refine o_idxarrv rfl rfl rfl rfl ?_
          | refine o_alloc ?_
          | refine o_pickt rfl rfl ?_
          | refine o_pickf rfl rfl ?_
          | refine o_un rfl rfl ?_
          | refine o_len rfl rfl ?_
          | refine o_build rfl rfl ?_
          | refine o_bslice rfl rfl ?_
          | refine o_box rfl rfl ?_
          | refine o_minmax2 rfl rfl rfl ?_
          | refine o_field rfl rfl ?_
          | refine o_append rfl rfl rfl rfl ?_
          | refine o_extract rfl rfl ?_
          | refine o_lenc ?_
          | refine z_drawn0 env0_ok rfl rfl rfl ?_
          | refine o_bin (op := .add) rfl rfl rfl ?_
          | refine o_bin (op := .sub) rfl rfl rfl ?_
          | refine o_eqbt rfl rfl rfl ?_
          | refine o_eqbf rfl rfl rfl ?_
          | refine o_cmpt rfl rfl rfl ?_
          | refine o_cmpf rfl rfl rfl ?_
          | refine o_conv rfl rfl ?_
          | refine o_mkfn rfl rfl ?_)
        refine o_cmp rfl rfl rfl (fun h3 => absurd (of_decide_eq_true h3) b2) fun _ => ?_
        repeat (first
          | refine z_seq ?_
          | refine z_region rfl ?_
          | refine o_nil ?_
          | refine u_seq ?_
          | refine u_blk ?_
          | refine z_block ?_
          | refine z_skip ?_
          | refine z_ct rfl ?_
          | refine z_cf rfl ?_
          | refine z_exit ?_
          | refine z_ret ?_
          | refine u_exit ?_
          | refine u_exit_seq ?_
          | refine u_exit_other rfl ?_
          | refine u_ret_seq ?_
          | refine u_ret_blk ?_
          | refine o_gy rfl ?_
          | refine o_gn rfl rfl ?_
          | refine o_gt rfl ?_
          | refine o_mov rfl ?_
          | refine o_load rfl rfl ?_
          | refine o_loadn rfl rfl rfl rfl ?_
          | refine o_store rfl rfl rfl rfl rfl rfl rfl ?_
          | refine o_faddrm rfl ?_
          | refine o_faddrv rfl rfl rfl ?_
          | refine o_idxarrm rfl rfl rfl ?_
          | refine o_idxarrv rfl rfl rfl rfl ?_
          | refine o_alloc ?_
          | refine o_pickt rfl rfl ?_
          | refine o_pickf rfl rfl ?_
          | refine o_un rfl rfl ?_
          | refine o_len rfl rfl ?_
          | refine o_build rfl rfl ?_
          | refine o_bslice rfl rfl ?_
          | refine o_box rfl rfl ?_
          | refine o_minmax2 rfl rfl rfl ?_
          | refine o_field rfl rfl ?_
          | refine o_append rfl rfl rfl rfl ?_
          | refine o_extract rfl rfl ?_
          | refine o_lenc ?_
          | refine z_drawn0 env0_ok rfl rfl rfl ?_
          | refine o_bin (op := .add) rfl rfl rfl ?_
          | refine o_bin (op := .sub) rfl rfl rfl ?_
          | refine o_eqbt rfl rfl rfl ?_
          | refine o_eqbf rfl rfl rfl ?_
          | refine o_cmpt rfl rfl rfl ?_
          | refine o_cmpf rfl rfl rfl ?_
          | refine o_conv rfl rfl ?_
          | refine o_mkfn rfl rfl ?_)
        refine o_cmp rfl rfl rfl (fun h3 => absurd (of_decide_eq_true h3) hq) fun _ => ?_
        repeat (first
          | refine z_seq ?_
          | refine z_region rfl ?_
          | refine o_nil ?_
          | refine u_seq ?_
          | refine u_blk ?_
          | refine z_block ?_
          | refine z_skip ?_
          | refine z_ct rfl ?_
          | refine z_cf rfl ?_
          | refine z_exit ?_
          | refine z_ret ?_
          | refine u_exit ?_
          | refine u_exit_seq ?_
          | refine u_exit_other rfl ?_
          | refine u_ret_seq ?_
          | refine u_ret_blk ?_
          | refine o_gy rfl ?_
          | refine o_gn rfl rfl ?_
          | refine o_gt rfl ?_
          | refine o_mov rfl ?_
          | refine o_load rfl rfl ?_
          | refine o_loadn rfl rfl rfl rfl ?_
          | refine o_store rfl rfl rfl rfl rfl rfl rfl ?_
          | refine o_faddrm rfl ?_
          | refine o_faddrv rfl rfl rfl ?_
          | refine o_idxarrm rfl rfl rfl ?_
          | refine o_idxarrv rfl rfl rfl rfl ?_
          | refine o_alloc ?_
          | refine o_pickt rfl rfl ?_
          | refine o_pickf rfl rfl ?_
          | refine o_un rfl rfl ?_
          | refine o_len rfl rfl ?_
          | refine o_build rfl rfl ?_
          | refine o_bslice rfl rfl ?_
          | refine o_box rfl rfl ?_
          | refine o_minmax2 rfl rfl rfl ?_
          | refine o_field rfl rfl ?_
          | refine o_append rfl rfl rfl rfl ?_
          | refine o_extract rfl rfl ?_
          | refine o_lenc ?_
          | refine z_drawn0 env0_ok rfl rfl rfl ?_
          | refine o_bin (op := .add) rfl rfl rfl ?_
          | refine o_bin (op := .sub) rfl rfl rfl ?_
          | refine o_eqbt rfl rfl rfl ?_
          | refine o_eqbf rfl rfl rfl ?_
          | refine o_cmpt rfl rfl rfl ?_
          | refine o_cmpf rfl rfl rfl ?_
          | refine o_conv rfl rfl ?_
          | refine o_mkfn rfl rfl ?_)
        refine o_call rfl rfl cp (fun _ => rfl) ?_
        repeat (first
          | refine z_seq ?_
          | refine z_region rfl ?_
          | refine o_nil ?_
          | refine u_seq ?_
          | refine u_blk ?_
          | refine z_block ?_
          | refine z_skip ?_
          | refine z_ct rfl ?_
          | refine z_cf rfl ?_
          | refine z_exit ?_
          | refine z_ret ?_
          | refine u_exit ?_
          | refine u_exit_seq ?_
          | refine u_exit_other rfl ?_
          | refine u_ret_seq ?_
          | refine u_ret_blk ?_
          | refine o_gy rfl ?_
          | refine o_gn rfl rfl ?_
          | refine o_gt rfl ?_
          | refine o_mov rfl ?_
          | refine o_load rfl rfl ?_
          | refine o_loadn rfl rfl rfl rfl ?_
          | refine o_store rfl rfl rfl rfl rfl rfl rfl ?_
          | refine o_faddrm rfl ?_
          | refine o_faddrv rfl rfl rfl ?_
          | refine o_idxarrm rfl rfl rfl ?_
          | refine o_idxarrv rfl rfl rfl rfl ?_
          | refine o_alloc ?_
          | refine o_pickt rfl rfl ?_
          | refine o_pickf rfl rfl ?_
          | refine o_un rfl rfl ?_
          | refine o_len rfl rfl ?_
          | refine o_build rfl rfl ?_
          | refine o_bslice rfl rfl ?_
          | refine o_box rfl rfl ?_
          | refine o_minmax2 rfl rfl rfl ?_
          | refine o_field rfl rfl ?_
          | refine o_append rfl rfl rfl rfl ?_
          | refine o_extract rfl rfl ?_
          | refine o_lenc ?_
          | refine z_drawn0 env0_ok rfl rfl rfl ?_
          | refine o_bin (op := .add) rfl rfl rfl ?_
          | refine o_bin (op := .sub) rfl rfl rfl ?_
          | refine o_eqbt rfl rfl rfl ?_
          | refine o_eqbf rfl rfl rfl ?_
          | refine o_cmpt rfl rfl rfl ?_
          | refine o_cmpf rfl rfl rfl ?_
          | refine o_conv rfl rfl ?_
          | refine o_mkfn rfl rfl ?_)
        refine o_call rfl rfl cr (fun _ => rfl) ?_
        repeat (first
          | refine z_seq ?_
          | refine z_region rfl ?_
          | refine o_nil ?_
          | refine u_seq ?_
          | refine u_blk ?_
          | refine z_block ?_
          | refine z_skip ?_
          | refine z_ct rfl ?_
          | refine z_cf rfl ?_
          | refine z_exit ?_
          | refine z_ret ?_
          | refine u_exit ?_
          | refine u_exit_seq ?_
          | refine u_exit_other rfl ?_
          | refine u_ret_seq ?_
          | refine u_ret_blk ?_
          | refine o_gy rfl ?_
          | refine o_gn rfl rfl ?_
          | refine o_gt rfl ?_
          | refine o_mov rfl ?_
          | refine o_load rfl rfl ?_
          | refine o_loadn rfl rfl rfl rfl ?_
          | refine o_store rfl rfl rfl rfl rfl rfl rfl ?_
          | refine o_faddrm rfl ?_
          | refine o_faddrv rfl rfl rfl ?_
          | refine o_idxarrm rfl rfl rfl ?_
          | refine o_idxarrv rfl rfl rfl rfl ?_
          | refine o_alloc ?_
          | refine o_pickt rfl rfl ?_
          | refine o_pickf rfl rfl ?_
          | refine o_un rfl rfl ?_
          | refine o_len rfl rfl ?_
          | refine o_build rfl rfl ?_
          | refine o_bslice rfl rfl ?_
          | refine o_box rfl rfl ?_
          | refine o_minmax2 rfl rfl rfl ?_
          | refine o_field rfl rfl ?_
          | refine o_append rfl rfl rfl rfl ?_
          | refine o_extract rfl rfl ?_
          | refine o_lenc ?_
          | refine z_drawn0 env0_ok rfl rfl rfl ?_
          | refine o_bin (op := .add) rfl rfl rfl ?_
          | refine o_bin (op := .sub) rfl rfl rfl ?_
          | refine o_eqbt rfl rfl rfl ?_
          | refine o_eqbf rfl rfl rfl ?_
          | refine o_cmpt rfl rfl rfl ?_
          | refine o_cmpf rfl rfl rfl ?_
          | refine o_conv rfl rfl ?_
          | refine o_mkfn rfl rfl ?_)
        refine o_cmp rfl rfl rfl (fun _ => ?_) fun h3 => absurd q1 (by rw [show (q != -1099511627776) = false from h3]; decide)
        repeat (first
          | refine z_seq ?_
          | refine z_region rfl ?_
          | refine o_nil ?_
          | refine u_seq ?_
          | refine u_blk ?_
          | refine z_block ?_
          | refine z_skip ?_
          | refine z_ct rfl ?_
          | refine z_cf rfl ?_
          | refine z_exit ?_
          | refine z_ret ?_
          | refine u_exit ?_
          | refine u_exit_seq ?_
          | refine u_exit_other rfl ?_
          | refine u_ret_seq ?_
          | refine u_ret_blk ?_
          | refine o_gy rfl ?_
          | refine o_gn rfl rfl ?_
          | refine o_gt rfl ?_
          | refine o_mov rfl ?_
          | refine o_load rfl rfl ?_
          | refine o_loadn rfl rfl rfl rfl ?_
          | refine o_store rfl rfl rfl rfl rfl rfl rfl ?_
          | refine o_faddrm rfl ?_
          | refine o_faddrv rfl rfl rfl ?_
          | refine o_idxarrm rfl rfl rfl ?_
          | refine o_idxarrv rfl rfl rfl rfl ?_
          | refine o_alloc ?_
          | refine o_pickt rfl rfl ?_
          | refine o_pickf rfl rfl ?_
          | refine o_un rfl rfl ?_
          | refine o_len rfl rfl ?_
          | refine o_build rfl rfl ?_
          | refine o_bslice rfl rfl ?_
          | refine o_box rfl rfl ?_
          | refine o_minmax2 rfl rfl rfl ?_
          | refine o_field rfl rfl ?_
          | refine o_append rfl rfl rfl rfl ?_
          | refine o_extract rfl rfl ?_
          | refine o_lenc ?_
          | refine z_drawn0 env0_ok rfl rfl rfl ?_
          | refine o_bin (op := .add) rfl rfl rfl ?_
          | refine o_bin (op := .sub) rfl rfl rfl ?_
          | refine o_eqbt rfl rfl rfl ?_
          | refine o_eqbf rfl rfl rfl ?_
          | refine o_cmpt rfl rfl rfl ?_
          | refine o_cmpf rfl rfl rfl ?_
          | refine o_conv rfl rfl ?_
          | refine o_mkfn rfl rfl ?_)
        exact u_round (show x.length - (i + 1) < x.length - i by omega) (sub_ren0 (.cons rfl (.same rfl) (.cons rfl (.same rfl) (.cons rfl (.same rfl) (.cons rfl (.same rfl) (.cons rfl (.same rfl) (.cons rfl (.same rfl) (.cons rfl (ren_eq (congrArg (AV.int .i64) (wrap_succ i (by omega))) rfl) .nil)))))))) ⟨i + 1, _, rfl, hlt, a6, rfl⟩
    · repeat (first
        | refine z_seq ?_
        | refine z_region rfl ?_
        | refine o_nil ?_
        | refine u_seq ?_
        | refine u_blk ?_
        | refine z_block ?_
        | refine z_skip ?_
        | refine z_ct rfl ?_
        | refine z_cf rfl ?_
        | refine z_exit ?_
        | refine z_ret ?_
        | refine u_exit ?_
        | refine u_exit_seq ?_
        | refine u_exit_other rfl ?_
        | refine u_ret_seq ?_
        | refine u_ret_blk ?_
        | refine o_gy rfl ?_
        | refine o_gn rfl rfl ?_
        | refine o_gt rfl ?_
        | refine o_mov rfl ?_
        | refine o_load rfl rfl ?_
        | refine o_loadn rfl rfl rfl rfl ?_
        | refine o_store rfl rfl rfl rfl rfl rfl rfl ?_
        | refine o_faddrm rfl ?_
        | refine o_faddrv rfl rfl rfl ?_
        | refine o_idxarrm rfl rfl rfl ?_
        | refine o_idxarrv rfl rfl rfl rfl ?_
        | refine o_alloc ?_
        | refine o_pickt rfl rfl ?_
        | refine o_pickf rfl rfl ?_
        | refine o_un rfl rfl ?_
        | refine o_len rfl rfl ?_
        | refine o_build rfl rfl ?_
        | refine o_bslice rfl rfl ?_
        | refine o_box rfl rfl ?_
        | refine o_minmax2 rfl rfl rfl ?_
        | refine o_field rfl rfl ?_
        | refine o_append rfl rfl rfl rfl ?_
        | refine o_extract rfl rfl ?_
        | refine o_lenc ?_
        | refine z_drawn0 env0_ok rfl rfl rfl ?_
        | refine o_bin (op := .add) rfl rfl rfl ?_
        | refine o_bin (op := .sub) rfl rfl rfl ?_
        | refine o_eqbt rfl rfl rfl ?_
        | refine o_eqbf rfl rfl rfl ?_
        | refine o_cmpt rfl rfl rfl ?_
        | refine o_cmpf rfl rfl rfl ?_
        | refine o_conv rfl rfl ?_
        | refine o_mkfn rfl rfl ?_)
      refine u_out ?_
      repeat (first
        | refine z_seq ?_
        | refine z_region rfl ?_
        | refine o_nil ?_
        | refine u_seq ?_
        | refine u_blk ?_
        | refine z_block ?_
        | refine z_skip ?_
        | refine z_ct rfl ?_
        | refine z_cf rfl ?_
        | refine z_exit ?_
        | refine z_ret ?_
        | refine u_exit ?_
        | refine u_exit_seq ?_
        | refine u_exit_other rfl ?_
        | refine u_ret_seq ?_
        | refine u_ret_blk ?_
        | refine o_gy rfl ?_
        | refine o_gn rfl rfl ?_
        | refine o_gt rfl ?_
        | refine o_mov rfl ?_
        | refine o_load rfl rfl ?_
        | refine o_loadn rfl rfl rfl rfl ?_
        | refine o_store rfl rfl rfl rfl rfl rfl rfl ?_
        | refine o_faddrm rfl ?_
        | refine o_faddrv rfl rfl rfl ?_
        | refine o_idxarrm rfl rfl rfl ?_
        | refine o_idxarrv rfl rfl rfl rfl ?_
        | refine o_alloc ?_
        | refine o_pickt rfl rfl ?_
        | refine o_pickf rfl rfl ?_
        | refine o_un rfl rfl ?_
        | refine o_len rfl rfl ?_
        | refine o_build rfl rfl ?_
        | refine o_bslice rfl rfl ?_
        | refine o_box rfl rfl ?_
        | refine o_minmax2 rfl rfl rfl ?_
        | refine o_field rfl rfl ?_
        | refine o_append rfl rfl rfl rfl ?_
        | refine o_extract rfl rfl ?_
        | refine o_lenc ?_
        | refine z_drawn0 env0_ok rfl rfl rfl ?_
        | refine o_bin (op := .add) rfl rfl rfl ?_
        | refine o_bin (op := .sub) rfl rfl rfl ?_
        | refine o_eqbt rfl rfl rfl ?_
        | refine o_eqbf rfl rfl rfl ?_
        | refine o_cmpt rfl rfl rfl ?_
        | refine o_cmpf rfl rfl rfl ?_
        | refine o_conv rfl rfl ?_
        | refine o_mkfn rfl rfl ?_)
      refine z_drawn env0_ok [(13, [], .bool true)] (fun z hz => by obtain rfl := List.mem_singleton.1 hz; exact awake5) (fun f => Nat.beq f 13) rfl rfl rfl ?_
      cases x with
      | nil =>
        repeat (first
          | refine z_seq ?_
          | refine z_region rfl ?_
          | refine o_nil ?_
          | refine u_seq ?_
          | refine u_blk ?_
          | refine z_block ?_
          | refine z_skip ?_
          | refine z_ct rfl ?_
          | refine z_cf rfl ?_
          | refine z_exit ?_
          | refine z_ret ?_
          | refine u_exit ?_
          | refine u_exit_seq ?_
          | refine u_exit_other rfl ?_
          | refine u_ret_seq ?_
          | refine u_ret_blk ?_
          | refine o_gy rfl ?_
          | refine o_gn rfl rfl ?_
          | refine o_gt rfl ?_
          | refine o_mov rfl ?_
          | refine o_load rfl rfl ?_
          | refine o_loadn rfl rfl rfl rfl ?_
          | refine o_store rfl rfl rfl rfl rfl rfl rfl ?_
          | refine o_faddrm rfl ?_
          | refine o_faddrv rfl rfl rfl ?_
          | refine o_idxarrm rfl rfl rfl ?_
          | refine o_idxarrv rfl rfl rfl rfl ?_
          | refine o_alloc ?_
          | refine o_pickt rfl rfl ?_
          | refine o_pickf rfl rfl ?_
          | refine o_un rfl rfl ?_
          | refine o_len rfl rfl ?_
          | refine o_build rfl rfl ?_
          | refine o_bslice rfl rfl ?_
          | refine o_box rfl rfl ?_
          | refine o_minmax2 rfl rfl rfl ?_
          | refine o_field rfl rfl ?_
          | refine o_append rfl rfl rfl rfl ?_
          | refine o_extract rfl rfl ?_
          | refine o_lenc ?_
          | refine z_drawn0 env0_ok rfl rfl rfl ?_
          | refine o_bin (op := .add) rfl rfl rfl ?_
          | refine o_bin (op := .sub) rfl rfl rfl ?_
          | refine o_eqbt rfl rfl rfl ?_
          | refine o_eqbf rfl rfl rfl ?_
          | refine o_cmpt rfl rfl rfl ?_
          | refine o_cmpf rfl rfl rfl ?_
          | refine o_conv rfl rfl ?_
          | refine o_mkfn rfl rfl ?_)
        refine o_call rfl rfl lookL_here (fun h => Bool.noConfusion (show false = true from h)) ?_
        repeat (first
          | refine z_seq ?_
          | refine z_region rfl ?_
          | refine o_nil ?_
          | refine u_seq ?_
          | refine u_blk ?_
          | refine z_block ?_
          | refine z_skip ?_
          | refine z_ct rfl ?_
          | refine z_cf rfl ?_
          | refine z_exit ?_
          | refine z_ret ?_
          | refine u_exit ?_
          | refine u_exit_seq ?_
          | refine u_exit_other rfl ?_
          | refine u_ret_seq ?_
          | refine u_ret_blk ?_
          | refine o_gy rfl ?_
          | refine o_gn rfl rfl ?_
          | refine o_gt rfl ?_
          | refine o_mov rfl ?_
          | refine o_load rfl rfl ?_
          | refine o_loadn rfl rfl rfl rfl ?_
          | refine o_store rfl rfl rfl rfl rfl rfl rfl ?_
          | refine o_faddrm rfl ?_
          | refine o_faddrv rfl rfl rfl ?_
          | refine o_idxarrm rfl rfl rfl ?_
          | refine o_idxarrv rfl rfl rfl rfl ?_
          | refine o_alloc ?_
          | refine o_pickt rfl rfl ?_
          | refine o_pickf rfl rfl ?_
          | refine o_un rfl rfl ?_
          | refine o_len rfl rfl ?_
          | refine o_build rfl rfl ?_
          | refine o_bslice rfl rfl ?_
          | refine o_box rfl rfl ?_
          | refine o_minmax2 rfl rfl rfl ?_
          | refine o_field rfl rfl ?_
          | refine o_append rfl rfl rfl rfl ?_
          | refine o_extract rfl rfl ?_
          | refine o_lenc ?_
          | refine z_drawn0 env0_ok rfl rfl rfl ?_
          | refine o_bin (op := .add) rfl rfl rfl ?_
          | refine o_bin (op := .sub) rfl rfl rfl ?_
          | refine o_eqbt rfl rfl rfl ?_
          | refine o_eqbf rfl rfl rfl ?_
          | refine o_cmpt rfl rfl rfl ?_
          | refine o_cmpf rfl rfl rfl ?_
          | refine o_conv rfl rfl ?_
          | refine o_mkfn rfl rfl ?_)
        exact u_end ⟨.inr rfl, _, rfl, rfl⟩
      | cons px x =>
        obtain ⟨z, hz, hzle⟩ := hso px rfl
        cases y with
        | nil => cases hz
        | cons py y =>
          obtain rfl : py = z := by simpa using hz
          repeat (first
            | refine z_seq ?_
            | refine z_region rfl ?_
            | refine o_nil ?_
            | refine u_seq ?_
            | refine u_blk ?_
            | refine z_block ?_
            | refine z_skip ?_
            | refine z_ct rfl ?_
            | refine z_cf rfl ?_
            | refine z_exit ?_
            | refine z_ret ?_
            | refine u_exit ?_
            | refine u_exit_seq ?_
            | refine u_exit_other rfl ?_
            | refine u_ret_seq ?_
            | refine u_ret_blk ?_
            | refine o_gy rfl ?_
            | refine o_gn rfl rfl ?_
            | refine o_gt rfl ?_
            | refine o_mov rfl ?_
            | refine o_load rfl rfl ?_
            | refine o_loadn rfl rfl rfl rfl ?_
            | refine o_store rfl rfl rfl rfl rfl rfl rfl ?_
            | refine o_faddrm rfl ?_
            | refine o_faddrv rfl rfl rfl ?_
            | refine o_idxarrm rfl rfl rfl ?_
            | refine o_idxarrv rfl rfl rfl rfl ?_
            | refine o_alloc ?_
            | refine o_pickt rfl rfl ?_
            | refine o_pickf rfl rfl ?_
            | refine o_un rfl rfl ?_
            | refine o_len rfl rfl ?_
            | refine o_build rfl rfl ?_
            | refine o_bslice rfl rfl ?_
            | refine o_box rfl rfl ?_
            | refine o_minmax2 rfl rfl rfl ?_
            | refine o_field rfl rfl ?_
            | refine o_append rfl rfl rfl rfl ?_
            | refine o_extract rfl rfl ?_
            | refine o_lenc ?_
            | refine z_drawn0 env0_ok rfl rfl rfl ?_
            | refine o_bin (op := .add) rfl rfl rfl ?_
            | refine o_bin (op := .sub) rfl rfl rfl ?_
            | refine o_eqbt rfl rfl rfl ?_
            | refine o_eqbf rfl rfl rfl ?_
            | refine o_cmpt rfl rfl rfl ?_
            | refine o_cmpf rfl rfl rfl ?_
            | refine o_conv rfl rfl ?_
            | refine o_mkfn rfl rfl ?_)
          have hy1 : (((py :: y).map rowP).length : Int) > 0 := by rw [List.length_map, List.length_cons]; omega
          refine o_cmp rfl rfl rfl (fun _ => ?_) fun h3 => absurd hy1 (of_decide_eq_false h3)
          repeat (first
            | refine z_seq ?_
            | refine z_region rfl ?_
            | refine o_nil ?_
            | refine u_seq ?_
            | refine u_blk ?_
            | refine z_block ?_
            | refine z_skip ?_
            | refine z_ct rfl ?_
            | refine z_cf rfl ?_
            | refine z_exit ?_
            | refine z_ret ?_
            | refine u_exit ?_
            | refine u_exit_seq ?_
            | refine u_exit_other rfl ?_
            | refine u_ret_seq ?_
            | refine u_ret_blk ?_
            | refine o_gy rfl ?_
            | refine o_gn rfl rfl ?_
            | refine o_gt rfl ?_
            | refine o_mov rfl ?_
            | refine o_load rfl rfl ?_
            | refine o_loadn rfl rfl rfl rfl ?_
            | refine o_store rfl rfl rfl rfl rfl rfl rfl ?_
            | refine o_faddrm rfl ?_
            | refine o_faddrv rfl rfl rfl ?_
            | refine o_idxarrm rfl rfl rfl ?_
            | refine o_idxarrv rfl rfl rfl rfl ?_
            | refine o_alloc ?_
            | refine o_pickt rfl rfl ?_
            | refine o_pickf rfl rfl ?_
            | refine o_un rfl rfl ?_
            | refine o_len rfl rfl ?_
            | refine o_build rfl rfl ?_
            | refine o_bslice rfl rfl ?_
            | refine o_box rfl rfl ?_
            | refine o_minmax2 rfl rfl rfl ?_
            | refine o_field rfl rfl ?_
            | refine o_append rfl rfl rfl rfl ?_
            | refine o_extract rfl rfl ?_
            | refine o_lenc ?_
            | refine z_drawn0 env0_ok rfl rfl rfl ?_
            | refine o_bin (op := .add) rfl rfl rfl ?_
            | refine o_bin (op := .sub) rfl rfl rfl ?_
            | refine o_eqbt rfl rfl rfl ?_
            | refine o_eqbf rfl rfl rfl ?_
            | refine o_cmpt rfl rfl rfl ?_
            | refine o_cmpf rfl rfl rfl ?_
            | refine o_conv rfl rfl ?_
            | refine o_mkfn rfl rfl ?_)
          refine o_idxs rfl rfl (Int.le_refl _) rfl rfl ?_
          repeat (first
            | refine z_seq ?_
            | refine z_region rfl ?_
            | refine o_nil ?_
            | refine u_seq ?_
            | refine u_blk ?_
            | refine z_block ?_
            | refine z_skip ?_
            | refine z_ct rfl ?_
            | refine z_cf rfl ?_
            | refine z_exit ?_
            | refine z_ret ?_
            | refine u_exit ?_
            | refine u_exit_seq ?_
            | refine u_exit_other rfl ?_
            | refine u_ret_seq ?_
            | refine u_ret_blk ?_
            | refine o_gy rfl ?_
            | refine o_gn rfl rfl ?_
            | refine o_gt rfl ?_
            | refine o_mov rfl ?_
            | refine o_load rfl rfl ?_
            | refine o_loadn rfl rfl rfl rfl ?_
            | refine o_store rfl rfl rfl rfl rfl rfl rfl ?_
            | refine o_faddrm rfl ?_
            | refine o_faddrv rfl rfl rfl ?_
            | refine o_idxarrm rfl rfl rfl ?_
            | refine o_idxarrv rfl rfl rfl rfl ?_
            | refine o_alloc ?_
            | refine o_pickt rfl rfl ?_
            | refine o_pickf rfl rfl ?_
            | refine o_un rfl rfl ?_
            | refine o_len rfl rfl ?_
            | refine o_build rfl rfl ?_
            | refine o_bslice rfl rfl ?_
            | refine o_box rfl rfl ?_
            | refine o_minmax2 rfl rfl rfl ?_
            | refine o_field rfl rfl ?_
            | refine o_append rfl rfl rfl rfl ?_
            | refine o_extract rfl rfl ?_
            | refine o_lenc ?_
            | refine z_drawn0 env0_ok rfl rfl rfl ?_
            | refine o_bin (op := .add) rfl rfl rfl ?_
            | refine o_bin (op := .sub) rfl rfl rfl ?_
            | refine o_eqbt rfl rfl rfl ?_
            | refine o_eqbf rfl rfl rfl ?_
            | refine o_cmpt rfl rfl rfl ?_
            | refine o_cmpf rfl rfl rfl ?_
            | refine o_conv rfl rfl ?_
            | refine o_mkfn rfl rfl ?_)
          refine o_idxs rfl rfl (Int.le_refl _) rfl rfl ?_
          repeat (first
            | refine z_seq ?_
            | refine z_region rfl ?_
            | refine o_nil ?_
            | refine u_seq ?_
            | refine u_blk ?_
            | refine z_block ?_
            | refine z_skip ?_
            | refine z_ct rfl ?_
            | refine z_cf rfl ?_
            | refine z_exit ?_
            | refine z_ret ?_
            | refine u_exit ?_
            | refine u_exit_seq ?_
            | refine u_exit_other rfl ?_
            | refine u_ret_seq ?_
            | refine u_ret_blk ?_
            | refine o_gy rfl ?_
            | refine o_gn rfl rfl ?_
            | refine o_gt rfl ?_
            | refine o_mov rfl ?_
            | refine o_load rfl rfl ?_
            | refine o_loadn rfl rfl rfl rfl ?_
            | refine o_store rfl rfl rfl rfl rfl rfl rfl ?_
            | refine o_faddrm rfl ?_
            | refine o_faddrv rfl rfl rfl ?_
            | refine o_idxarrm rfl rfl rfl ?_
            | refine o_idxarrv rfl rfl rfl rfl ?_
            | refine o_alloc ?_
            | refine o_pickt rfl rfl ?_
            | refine o_pickf rfl rfl ?_
            | refine o_un rfl rfl ?_
            | refine o_len rfl rfl ?_
            | refine o_build rfl rfl ?_
            | refine o_bslice rfl rfl ?_
            | refine o_box rfl rfl ?_
            | refine o_minmax2 rfl rfl rfl ?_
            | refine o_field rfl rfl ?_
            | refine o_append rfl rfl rfl rfl ?_
            | refine o_extract rfl rfl ?_
            | refine o_lenc ?_
            | refine z_drawn0 env0_ok rfl rfl rfl ?_
            | refine o_bin (op := .add) rfl rfl rfl ?_
            | refine o_bin (op := .sub) rfl rfl rfl ?_
            | refine o_eqbt rfl rfl rfl ?_
            | refine o_eqbf rfl rfl rfl ?_
            | refine o_cmpt rfl rfl rfl ?_
            | refine o_cmpf rfl rfl rfl ?_
            | refine o_conv rfl rfl ?_
            | refine o_mkfn rfl rfl ?_)
          refine o_cmp rfl rfl rfl (fun _ => ?_) fun h3 => absurd hzle (of_decide_eq_false h3)
          repeat (first
            | refine z_seq ?_
            | refine z_region rfl ?_
            | refine o_nil ?_
            | refine u_seq ?_
            | refine u_blk ?_
            | refine z_block ?_
            | refine z_skip ?_
            | refine z_ct rfl ?_
            | refine z_cf rfl ?_
            | refine z_exit ?_
            | refine z_ret ?_
            | refine u_exit ?_
            | refine u_exit_seq ?_
            | refine u_exit_other rfl ?_
            | refine u_ret_seq ?_
            | refine u_ret_blk ?_
            | refine o_gy rfl ?_
            | refine o_gn rfl rfl ?_
            | refine o_gt rfl ?_
            | refine o_mov rfl ?_
            | refine o_load rfl rfl ?_
            | refine o_loadn rfl rfl rfl rfl ?_
            | refine o_store rfl rfl rfl rfl rfl rfl rfl ?_
            | refine o_faddrm rfl ?_
            | refine o_faddrv rfl rfl rfl ?_
            | refine o_idxarrm rfl rfl rfl ?_
            | refine o_idxarrv rfl rfl rfl rfl ?_
            | refine o_alloc ?_
            | refine o_pickt rfl rfl ?_
            | refine o_pickf rfl rfl ?_
            | refine o_un rfl rfl ?_
            | refine o_len rfl rfl ?_
            | refine o_build rfl rfl ?_
            | refine o_bslice rfl rfl ?_
            | refine o_box rfl rfl ?_
            | refine o_minmax2 rfl rfl rfl ?_
            | refine o_field rfl rfl ?_
            | refine o_append rfl rfl rfl rfl ?_
            | refine o_extract rfl rfl ?_
            | refine o_lenc ?_
            | refine z_drawn0 env0_ok rfl rfl rfl ?_
            | refine o_bin (op := .add) rfl rfl rfl ?_
            | refine o_bin (op := .sub) rfl rfl rfl ?_
            | refine o_eqbt rfl rfl rfl ?_
            | refine o_eqbf rfl rfl rfl ?_
            | refine o_cmpt rfl rfl rfl ?_
            | refine o_cmpf rfl rfl rfl ?_
            | refine o_conv rfl rfl ?_
            | refine o_mkfn rfl rfl ?_)
          refine o_call rfl rfl lookL_here (fun h => Bool.noConfusion (show false = true from h)) ?_
          repeat (first
            | refine z_seq ?_
            | refine z_region rfl ?_
            | refine o_nil ?_
            | refine u_seq ?_
            | refine u_blk ?_
            | refine z_block ?_
            | refine z_skip ?_
            | refine z_ct rfl ?_
            | refine z_cf rfl ?_
            | refine z_exit ?_
            | refine z_ret ?_
            | refine u_exit ?_
            | refine u_exit_seq ?_
            | refine u_exit_other rfl ?_
            | refine u_ret_seq ?_
            | refine u_ret_blk ?_
            | refine o_gy rfl ?_
            | refine o_gn rfl rfl ?_
            | refine o_gt rfl ?_
            | refine o_mov rfl ?_
            | refine o_load rfl rfl ?_
            | refine o_loadn rfl rfl rfl rfl ?_
            | refine o_store rfl rfl rfl rfl rfl rfl rfl ?_
            | refine o_faddrm rfl ?_
            | refine o_faddrv rfl rfl rfl ?_
            | refine o_idxarrm rfl rfl rfl ?_
            | refine o_idxarrv rfl rfl rfl rfl ?_
            | refine o_alloc ?_
            | refine o_pickt rfl rfl ?_
            | refine o_pickf rfl rfl ?_
            | refine o_un rfl rfl ?_
            | refine o_len rfl rfl ?_
            | refine o_build rfl rfl ?_
            | refine o_bslice rfl rfl ?_
            | refine o_box rfl rfl ?_
            | refine o_minmax2 rfl rfl rfl ?_
            | refine o_field rfl rfl ?_
            | refine o_append rfl rfl rfl rfl ?_
            | refine o_extract rfl rfl ?_
            | refine o_lenc ?_
            | refine z_drawn0 env0_ok rfl rfl rfl ?_
            | refine o_bin (op := .add) rfl rfl rfl ?_
            | refine o_bin (op := .sub) rfl rfl rfl ?_
            | refine o_eqbt rfl rfl rfl ?_
            | refine o_eqbf rfl rfl rfl ?_
            | refine o_cmpt rfl rfl rfl ?_
            | refine o_cmpf rfl rfl rfl ?_
            | refine o_conv rfl rfl ?_
            | refine o_mkfn rfl rfl ?_)
          exact u_end ⟨.inr rfl, _, rfl, rfl⟩
  · have g1 : twoRes l lo = .tup [.vs [], .int .i64 (evErr l lo)] := if_neg he
    have g2 : twoRes l hi = .tup [.vs [], .int .i64 (evErr l lo)] := by rw [← hee]; exact if_neg (by rw [hee]; exact he)
    rw [g1]
    repeat (first
      | refine z_seq ?_
      | refine z_region rfl ?_
      | refine o_nil ?_
      | refine u_seq ?_
      | refine u_blk ?_
      | refine z_block ?_
      | refine z_skip ?_
      | refine z_ct rfl ?_
      | refine z_cf rfl ?_
      | refine z_exit ?_
      | refine z_ret ?_
      | refine u_exit ?_
      | refine u_exit_seq ?_
      | refine u_exit_other rfl ?_
      | refine u_ret_seq ?_
      | refine u_ret_blk ?_
      | refine o_gy rfl ?_
      | refine o_gn rfl rfl ?_
      | refine o_gt rfl ?_
      | refine o_mov rfl ?_
      | refine o_load rfl rfl ?_
      | refine o_loadn rfl rfl rfl rfl ?_
      | refine o_store rfl rfl rfl rfl rfl rfl rfl ?_
      | refine o_faddrm rfl ?_
      | refine o_faddrv rfl rfl rfl ?_
      | refine o_idxarrm rfl rfl rfl ?_
      | refine o_idxarrv rfl rfl rfl rfl ?_
      | refine o_alloc ?_
      | refine o_pickt rfl rfl ?_
      | refine o_pickf rfl rfl ?_
      | refine o_un rfl rfl ?_
      | refine o_len rfl rfl ?_
      | refine o_build rfl rfl ?_
      | refine o_bslice rfl rfl ?_
      | refine o_box rfl rfl ?_
      | refine o_minmax2 rfl rfl rfl ?_
      | refine o_field rfl rfl ?_
      | refine o_append rfl rfl rfl rfl ?_
      | refine o_extract rfl rfl ?_
      | refine o_lenc ?_
      | refine z_drawn0 env0_ok rfl rfl rfl ?_
      | refine o_bin (op := .add) rfl rfl rfl ?_
      | refine o_bin (op := .sub) rfl rfl rfl ?_
      | refine o_eqbt rfl rfl rfl ?_
      | refine o_eqbf rfl rfl rfl ?_
      | refine o_cmpt rfl rfl rfl ?_
      | refine o_cmpf rfl rfl rfl ?_
      | refine o_conv rfl rfl ?_
      | refine o_mkfn rfl rfl ?_)
    refine o_call rfl (congrArg (fun z => [AV.vs (l.map rowE), AV.int .i64 z]) ehi) (two17 l hi) (fun h => Bool.noConfusion (show false = true from h)) ?_
    rw [g2]
    repeat (first
      | refine z_seq ?_
      | refine z_region rfl ?_
      | refine o_nil ?_
      | refine u_seq ?_
      | refine u_blk ?_
      | refine z_block ?_
      | refine z_skip ?_
      | refine z_ct rfl ?_
      | refine z_cf rfl ?_
      | refine z_exit ?_
      | refine z_ret ?_
      | refine u_exit ?_
      | refine u_exit_seq ?_
      | refine u_exit_other rfl ?_
      | refine u_ret_seq ?_
      | refine u_ret_blk ?_
      | refine o_gy rfl ?_
      | refine o_gn rfl rfl ?_
      | refine o_gt rfl ?_
      | refine o_mov rfl ?_
      | refine o_load rfl rfl ?_
      | refine o_loadn rfl rfl rfl rfl ?_
      | refine o_store rfl rfl rfl rfl rfl rfl rfl ?_
      | refine o_faddrm rfl ?_
      | refine o_faddrv rfl rfl rfl ?_
      | refine o_idxarrm rfl rfl rfl ?_
      | refine o_idxarrv rfl rfl rfl rfl ?_
      | refine o_alloc ?_
      | refine o_pickt rfl rfl ?_
      | refine o_pickf rfl rfl ?_
      | refine o_un rfl rfl ?_
      | refine o_len rfl rfl ?_
      | refine o_build rfl rfl ?_
      | refine o_bslice rfl rfl ?_
      | refine o_box rfl rfl ?_
      | refine o_minmax2 rfl rfl rfl ?_
      | refine o_field rfl rfl ?_
      | refine o_append rfl rfl rfl rfl ?_
      | refine o_extract rfl rfl ?_
      | refine o_lenc ?_
      | refine z_drawn0 env0_ok rfl rfl rfl ?_
      | refine o_bin (op := .add) rfl rfl rfl ?_
      | refine o_bin (op := .sub) rfl rfl rfl ?_
      | refine o_eqbt rfl rfl rfl ?_
      | refine o_eqbf rfl rfl rfl ?_
      | refine o_cmpt rfl rfl rfl ?_
      | refine o_cmpf rfl rfl rfl ?_
      | refine o_conv rfl rfl ?_
      | refine o_mkfn rfl rfl ?_)
    have same : decide (evErr l lo = evErr l lo) = true := by simp
    refine o_cmp rfl rfl rfl (fun h1 => ?_) fun h1 => ?_
    · repeat (first
        | refine z_seq ?_
        | refine z_region rfl ?_
        | refine o_nil ?_
        | refine u_seq ?_
        | refine u_blk ?_
        | refine z_block ?_
        | refine z_skip ?_
        | refine z_ct rfl ?_
        | refine z_cf rfl ?_
        | refine z_exit ?_
        | refine z_ret ?_
        | refine u_exit ?_
        | refine u_exit_seq ?_
        | refine u_exit_other rfl ?_
        | refine u_ret_seq ?_
        | refine u_ret_blk ?_
        | refine o_gy rfl ?_
        | refine o_gn rfl rfl ?_
        | refine o_gt rfl ?_
        | refine o_mov rfl ?_
        | refine o_load rfl rfl ?_
        | refine o_loadn rfl rfl rfl rfl ?_
        | refine o_store rfl rfl rfl rfl rfl rfl rfl ?_
        | refine o_faddrm rfl ?_
        | refine o_faddrv rfl rfl rfl ?_
        | refine o_idxarrm rfl rfl rfl ?_
        | refine o_idxarrv rfl rfl rfl rfl ?_
        | refine o_alloc ?_
        | refine o_pickt rfl rfl ?_
        | refine o_pickf rfl rfl ?_
        | refine o_un rfl rfl ?_
        | refine o_len rfl rfl ?_
        | refine o_build rfl rfl ?_
        | refine o_bslice rfl rfl ?_
        | refine o_box rfl rfl ?_
        | refine o_minmax2 rfl rfl rfl ?_
        | refine o_field rfl rfl ?_
        | refine o_append rfl rfl rfl rfl ?_
        | refine o_extract rfl rfl ?_
        | refine o_lenc ?_
        | refine z_drawn0 env0_ok rfl rfl rfl ?_
        | refine o_bin (op := .add) rfl rfl rfl ?_
        | refine o_bin (op := .sub) rfl rfl rfl ?_
        | refine o_eqbt rfl rfl rfl ?_
        | refine o_eqbf rfl rfl rfl ?_
        | refine o_cmpt rfl rfl rfl ?_
        | refine o_cmpf rfl rfl rfl ?_
        | refine o_conv rfl rfl ?_
        | refine o_mkfn rfl rfl ?_)
      refine o_cmp rfl rfl rfl (fun h2 => ?_) fun h2 => absurd h2 (by simp)
      repeat (first
        | refine z_seq ?_
        | refine z_region rfl ?_
        | refine o_nil ?_
        | refine u_seq ?_
        | refine u_blk ?_
        | refine z_block ?_
        | refine z_skip ?_
        | refine z_ct rfl ?_
        | refine z_cf rfl ?_
        | refine z_exit ?_
        | refine z_ret ?_
        | refine u_exit ?_
        | refine u_exit_seq ?_
        | refine u_exit_other rfl ?_
        | refine u_ret_seq ?_
        | refine u_ret_blk ?_
        | refine o_gy rfl ?_
        | refine o_gn rfl rfl ?_
        | refine o_gt rfl ?_
        | refine o_mov rfl ?_
        | refine o_load rfl rfl ?_
        | refine o_loadn rfl rfl rfl rfl ?_
        | refine o_store rfl rfl rfl rfl rfl rfl rfl ?_
        | refine o_faddrm rfl ?_
        | refine o_faddrv rfl rfl rfl ?_
        | refine o_idxarrm rfl rfl rfl ?_
        | refine o_idxarrv rfl rfl rfl rfl ?_
        | refine o_alloc ?_
        | refine o_pickt rfl rfl ?_
        | refine o_pickf rfl rfl ?_
        | refine o_un rfl rfl ?_
        | refine o_len rfl rfl ?_
        | refine o_build rfl rfl ?_
        | refine o_bslice rfl rfl ?_
        | refine o_box rfl rfl ?_
        | refine o_minmax2 rfl rfl rfl ?_
        | refine o_field rfl rfl ?_
        | refine o_append rfl rfl rfl rfl ?_
        | refine o_extract rfl rfl ?_
        | refine o_lenc ?_
        | refine z_drawn0 env0_ok rfl rfl rfl ?_
        | refine o_bin (op := .add) rfl rfl rfl ?_
        | refine o_bin (op := .sub) rfl rfl rfl ?_
        | refine o_eqbt rfl rfl rfl ?_
        | refine o_eqbf rfl rfl rfl ?_
        | refine o_cmpt rfl rfl rfl ?_
        | refine o_cmpf rfl rfl rfl ?_
        | refine o_conv rfl rfl ?_
        | refine o_mkfn rfl rfl ?_
        | refine o_call rfl rfl awake5 (fun h => Bool.noConfusion (show false = true from h)) ?_)
      exact u_end ⟨.inr rfl, _, rfl, rfl⟩
    · repeat (first
        | refine z_seq ?_
        | refine z_region rfl ?_
        | refine o_nil ?_
        | refine u_seq ?_
        | refine u_blk ?_
        | refine z_block ?_
        | refine z_skip ?_
        | refine z_ct rfl ?_
        | refine z_cf rfl ?_
        | refine z_exit ?_
        | refine z_ret ?_
        | refine u_exit ?_
        | refine u_exit_seq ?_
        | refine u_exit_other rfl ?_
        | refine u_ret_seq ?_
        | refine u_ret_blk ?_
        | refine o_gy rfl ?_
        | refine o_gn rfl rfl ?_
        | refine o_gt rfl ?_
        | refine o_mov rfl ?_
        | refine o_load rfl rfl ?_
        | refine o_loadn rfl rfl rfl rfl ?_
        | refine o_store rfl rfl rfl rfl rfl rfl rfl ?_
        | refine o_faddrm rfl ?_
        | refine o_faddrv rfl rfl rfl ?_
        | refine o_idxarrm rfl rfl rfl ?_
        | refine o_idxarrv rfl rfl rfl rfl ?_
        | refine o_alloc ?_
        | refine o_pickt rfl rfl ?_
        | refine o_pickf rfl rfl ?_
        | refine o_un rfl rfl ?_
        | refine o_len rfl rfl ?_
        | refine o_build rfl rfl ?_
        | refine o_bslice rfl rfl ?_
        | refine o_box rfl rfl ?_
        | refine o_minmax2 rfl rfl rfl ?_
        | refine o_field rfl rfl ?_
        | refine o_append rfl rfl rfl rfl ?_
        | refine o_extract rfl rfl ?_
        | refine o_lenc ?_
        | refine z_drawn0 env0_ok rfl rfl rfl ?_
        | refine o_bin (op := .add) rfl rfl rfl ?_
        | refine o_bin (op := .sub) rfl rfl rfl ?_
        | refine o_eqbt rfl rfl rfl ?_
        | refine o_eqbf rfl rfl rfl ?_
        | refine o_cmpt rfl rfl rfl ?_
        | refine o_cmpf rfl rfl rfl ?_
        | refine o_conv rfl rfl ?_
        | refine o_mkfn rfl rfl ?_)
      refine o_cmp rfl rfl rfl (fun h2 => absurd h2 (by simp)) fun h2 => ?_
      repeat (first
        | refine z_seq ?_
        | refine z_region rfl ?_
        | refine o_nil ?_
        | refine u_seq ?_
        | refine u_blk ?_
        | refine z_block ?_
        | refine z_skip ?_
        | refine z_ct rfl ?_
        | refine z_cf rfl ?_
        | refine z_exit ?_
        | refine z_ret ?_
        | refine u_exit ?_
        | refine u_exit_seq ?_
        | refine u_exit_other rfl ?_
        | refine u_ret_seq ?_
        | refine u_ret_blk ?_
        | refine o_gy rfl ?_
        | refine o_gn rfl rfl ?_
        | refine o_gt rfl ?_
        | refine o_mov rfl ?_
        | refine o_load rfl rfl ?_
        | refine o_loadn rfl rfl rfl rfl ?_
        | refine o_store rfl rfl rfl rfl rfl rfl rfl ?_
        | refine o_faddrm rfl ?_
        | refine o_faddrv rfl rfl rfl ?_
        | refine o_idxarrm rfl rfl rfl ?_
        | refine o_idxarrv rfl rfl rfl rfl ?_
        | refine o_alloc ?_
        | refine o_pickt rfl rfl ?_
        | refine o_pickf rfl rfl ?_
        | refine o_un rfl rfl ?_
        | refine o_len rfl rfl ?_
        | refine o_build rfl rfl ?_
        | refine o_bslice rfl rfl ?_
        | refine o_box rfl rfl ?_
        | refine o_minmax2 rfl rfl rfl ?_
        | refine o_field rfl rfl ?_
        | refine o_append rfl rfl rfl rfl ?_
        | refine o_extract rfl rfl ?_
        | refine o_lenc ?_
        | refine z_drawn0 env0_ok rfl rfl rfl ?_
        | refine o_bin (op := .add) rfl rfl rfl ?_
        | refine o_bin (op := .sub) rfl rfl rfl ?_
        | refine o_eqbt rfl rfl rfl ?_
        | refine o_eqbf rfl rfl rfl ?_
        | refine o_cmpt rfl rfl rfl ?_
        | refine o_cmpf rfl rfl rfl ?_
        | refine o_conv rfl rfl ?_
        | refine o_mkfn rfl rfl ?_)
      refine o_cmp rfl rfl rfl (fun h3 => ?_) fun h3 => absurd h3 (by simpa using he)
      repeat (first
        | refine z_seq ?_
        | refine z_region rfl ?_
        | refine o_nil ?_
        | refine u_seq ?_
        | refine u_blk ?_
        | refine z_block ?_
        | refine z_skip ?_
        | refine z_ct rfl ?_
        | refine z_cf rfl ?_
        | refine z_exit ?_
        | refine z_ret ?_
        | refine u_exit ?_
        | refine u_exit_seq ?_
        | refine u_exit_other rfl ?_
        | refine u_ret_seq ?_
        | refine u_ret_blk ?_
        | refine o_gy rfl ?_
        | refine o_gn rfl rfl ?_
        | refine o_gt rfl ?_
        | refine o_mov rfl ?_
        | refine o_load rfl rfl ?_
        | refine o_loadn rfl rfl rfl rfl ?_
        | refine o_store rfl rfl rfl rfl rfl rfl rfl ?_
        | refine o_faddrm rfl ?_
        | refine o_faddrv rfl rfl rfl ?_
        | refine o_idxarrm rfl rfl rfl ?_
        | refine o_idxarrv rfl rfl rfl rfl ?_
        | refine o_alloc ?_
        | refine o_pickt rfl rfl ?_
        | refine o_pickf rfl rfl ?_
        | refine o_un rfl rfl ?_
        | refine o_len rfl rfl ?_
        | refine o_build rfl rfl ?_
        | refine o_bslice rfl rfl ?_
        | refine o_box rfl rfl ?_
        | refine o_minmax2 rfl rfl rfl ?_
        | refine o_field rfl rfl ?_
        | refine o_append rfl rfl rfl rfl ?_
        | refine o_extract rfl rfl ?_
        | refine o_lenc ?_
        | refine z_drawn0 env0_ok rfl rfl rfl ?_
        | refine o_bin (op := .add) rfl rfl rfl ?_
        | refine o_bin (op := .sub) rfl rfl rfl ?_
        | refine o_eqbt rfl rfl rfl ?_
        | refine o_eqbf rfl rfl rfl ?_
        | refine o_cmpt rfl rfl rfl ?_
        | refine o_cmpf rfl rfl rfl ?_
        | refine o_conv rfl rfl ?_
        | refine o_mkfn rfl rfl ?_)
      refine o_cmp rfl rfl rfl (fun h2 => ?_) fun h2 => absurd h2 (by simp)
      repeat (first
        | refine z_seq ?_
        | refine z_region rfl ?_
        | refine o_nil ?_
        | refine u_seq ?_
        | refine u_blk ?_
        | refine z_block ?_
        | refine z_skip ?_
        | refine z_ct rfl ?_
        | refine z_cf rfl ?_
        | refine z_exit ?_
        | refine z_ret ?_
        | refine u_exit ?_
        | refine u_exit_seq ?_
        | refine u_exit_other rfl ?_
        | refine u_ret_seq ?_
        | refine u_ret_blk ?_
        | refine o_gy rfl ?_
        | refine o_gn rfl rfl ?_
        | refine o_gt rfl ?_
        | refine o_mov rfl ?_
        | refine o_load rfl rfl ?_
        | refine o_loadn rfl rfl rfl rfl ?_
        | refine o_store rfl rfl rfl rfl rfl rfl rfl ?_
        | refine o_faddrm rfl ?_
        | refine o_faddrv rfl rfl rfl ?_
        | refine o_idxarrm rfl rfl rfl ?_
        | refine o_idxarrv rfl rfl rfl rfl ?_
        | refine o_alloc ?_
        | refine o_pickt rfl rfl ?_
        | refine o_pickf rfl rfl ?_
        | refine o_un rfl rfl ?_
        | refine o_len rfl rfl ?_
        | refine o_build rfl rfl ?_
        | refine o_bslice rfl rfl ?_
        | refine o_box rfl rfl ?_
        | refine o_minmax2 rfl rfl rfl ?_
        | refine o_field rfl rfl ?_
        | refine o_append rfl rfl rfl rfl ?_
        | refine o_extract rfl rfl ?_
        | refine o_lenc ?_
        | refine z_drawn0 env0_ok rfl rfl rfl ?_
        | refine o_bin (op := .add) rfl rfl rfl ?_
        | refine o_bin (op := .sub) rfl rfl rfl ?_
        | refine o_eqbt rfl rfl rfl ?_
        | refine o_eqbf rfl rfl rfl ?_
        | refine o_cmpt rfl rfl rfl ?_
        | refine o_cmpf rfl rfl rfl ?_
        | refine o_conv rfl rfl ?_
        | refine o_mkfn rfl rfl ?_
        | refine o_call rfl rfl awake5 (fun h => Bool.noConfusion (show false = true from h)) ?_)
      exact u_end ⟨.inr rfl, _, rfl, rfl⟩

end Go.Proofs.Ytofkihmckookjaa
