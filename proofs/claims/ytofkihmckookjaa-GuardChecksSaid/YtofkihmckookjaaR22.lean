/-
  THE LAW OF CHECKS OF GUARDS: what it computes, for lists that are trees.
-/
import Derived.Test.YtofkihmckookjaaR20
import Derived.Test.YtofkihmckookjaaR21
import Derived.Test.YtofkihmckookjaaR14
namespace Go.Proofs.Ytofkihmckookjaa
open Go Go.Am

theorem idxs_length (f : Ex → Bool) : ∀ (i : Nat) (l : List Ex), (idxs f i l).length ≤ l.length
  | _, [] => Nat.le_refl _
  | i, y :: ys => by
    rw [idxs]
    have := idxs_length f (i + 1) ys
    split <;> simp only [List.length_cons] <;> omega

-- pneumatic/pneumaticlaw49.GuardChecks
def ic6 : IC := .seq (.region [⟨(some 3), .box (.t 0), none⟩,
    ⟨(some 6), .mov (.c (.bool false)), none⟩] none)
  (.seq (.seq (.region [⟨(some 15), .load (some 1) (.t 3), none⟩,
    ⟨(some 16), .call (.c (.fn 11 [] [])) [(.t 15)], none⟩,
    ⟨(some 17), .un .not (.t 16), none⟩,
    ⟨(some 18), .mov (.t 17), none⟩,
    ⟨(some 19), .mov (.t 2), some (18, false)⟩,
    ⟨(some 20), .len false (.t 19), some (18, false)⟩,
    ⟨(some 21), .bin .gtr (.t 20) (.c (.int .i64 40)), some (18, false)⟩,
    ⟨(some 22), .pick (.t 18) (.c (.bool true)) (.t 21), none⟩] none)
  (.cond (.t 22) (.seq (.region [⟨(some 23), .call (.c (.fn 13 [] [])) [], none⟩,
    ⟨(some 6), .mov (.t 23), none⟩] none)
  (.ret))
  (.skip)))
  (.seq (.region [⟨(some 25), .load (some 1) (.t 3), none⟩,
    ⟨(some 26), .mov (.t 2), none⟩,
    ⟨(some 27), .call (.c (.fn 24 [] [])) [(.t 25), (.t 26)], none⟩,
    ⟨(some 24), .mov (.t 27), none⟩,
    ⟨(some 28), .extract (.t 24) 0, none⟩,
    ⟨(some 29), .extract (.t 24) 1, none⟩,
    ⟨(some 7), .mov (.t 28), none⟩,
    ⟨(some 8), .mov (.t 29), none⟩] none)
  (.seq (.region [⟨(some 31), .load (some 1) (.t 3), none⟩,
    ⟨(some 32), .mov (.t 2), none⟩,
    ⟨(some 33), .call (.c (.fn 25 [] [])) [(.t 31), (.t 32)], none⟩,
    ⟨(some 30), .mov (.t 33), none⟩,
    ⟨(some 34), .extract (.t 30) 0, none⟩,
    ⟨(some 35), .extract (.t 30) 1, none⟩,
    ⟨(some 9), .mov (.t 34), none⟩,
    ⟨(some 10), .mov (.t 35), none⟩] none)
  (.seq (.region [⟨(some 37), .load (some 1) (.t 3), none⟩,
    ⟨(some 38), .mov (.t 2), none⟩,
    ⟨(some 39), .call (.c (.fn 26 [] [])) [(.t 37), (.t 38)], none⟩,
    ⟨(some 36), .mov (.t 39), none⟩,
    ⟨(some 40), .extract (.t 36) 0, none⟩,
    ⟨(some 41), .extract (.t 36) 1, none⟩,
    ⟨(some 11), .mov (.t 40), none⟩,
    ⟨(some 12), .mov (.t 41), none⟩] none)
  (.seq (.region [⟨(some 43), .load (some 1) (.t 3), none⟩,
    ⟨(some 44), .mov (.t 2), none⟩,
    ⟨(some 45), .call (.c (.fn 27 [] [])) [(.t 43), (.t 44)], none⟩,
    ⟨(some 42), .mov (.t 45), none⟩,
    ⟨(some 46), .extract (.t 42) 0, none⟩,
    ⟨(some 47), .extract (.t 42) 1, none⟩,
    ⟨(some 13), .mov (.t 46), none⟩,
    ⟨(some 14), .mov (.t 47), none⟩] none)
  (.seq (.region [⟨(some 48), .load (some 1) (.t 3), none⟩,
    ⟨(some 49), .mov (.t 1), none⟩,
    ⟨(some 50), .call (.c (.fn 28 [] [])) [(.t 48), (.t 49)], none⟩,
    ⟨(some 51), .load (some 1) (.t 3), none⟩,
    ⟨(some 52), .mov (.t 1), none⟩,
    ⟨(some 53), .call (.c (.fn 29 [] [])) [(.t 51), (.t 52)], none⟩,
    ⟨(some 54), .bin .eql (.t 50) (.t 53), none⟩,
    ⟨(some 55), .mov (.t 54), none⟩,
    ⟨(some 56), .mov (.t 7), some (55, true)⟩,
    ⟨(some 57), .mov (.t 9), some (55, true)⟩,
    ⟨(some 58), .eqb false (.t 56) (.t 57), some (55, true)⟩,
    ⟨(some 59), .pick (.t 55) (.t 58) (.c (.bool false)), none⟩,
    ⟨(some 60), .mov (.t 59), none⟩,
    ⟨(some 61), .mov (.t 8), some (60, true)⟩,
    ⟨(some 62), .mov (.t 10), some (60, true)⟩,
    ⟨(some 63), .bin .eql (.t 61) (.t 62), some (60, true)⟩,
    ⟨(some 64), .pick (.t 60) (.t 63) (.c (.bool false)), none⟩,
    ⟨(some 65), .mov (.t 64), none⟩,
    ⟨(some 66), .mov (.t 11), some (65, true)⟩,
    ⟨(some 67), .mov (.t 13), some (65, true)⟩,
    ⟨(some 68), .call (.c (.fn 16 [] [])) [(.t 66), (.t 67)], some (65, true)⟩,
    ⟨(some 69), .pick (.t 65) (.t 68) (.c (.bool false)), none⟩,
    ⟨(some 70), .mov (.t 69), none⟩,
    ⟨(some 71), .mov (.t 12), some (70, true)⟩,
    ⟨(some 72), .mov (.t 14), some (70, true)⟩,
    ⟨(some 73), .bin .eql (.t 71) (.t 72), some (70, true)⟩,
    ⟨(some 74), .pick (.t 70) (.t 73) (.c (.bool false)), none⟩,
    ⟨(some 75), .mov (.t 74), none⟩,
    ⟨(some 76), .call (.c (.fn 13 [] [])) [], some (75, true)⟩,
    ⟨(some 77), .pick (.t 75) (.t 76) (.c (.bool false)), none⟩,
    ⟨(some 6), .mov (.t 77), none⟩] (some [[], [], [0, 1], [], [], [3, 4, 2], [2, 5], [6, 5], [7], [7], [8, 9, 7], [7, 10], [11, 7], [12], [12], [13, 14, 12], [12, 15], [16, 12], [17], [17], [18, 19, 17, 17], [17, 20], [21, 20], [22], [22], [23, 24, 22], [22, 25], [26, 22], [27, 27], [27, 28], [29, 28, 0, 1, 2, 3, 4, 5, 6, 7, 8, 9, 10, 11, 12, 13, 14, 15, 16, 17, 18, 19, 20, 21, 22, 23, 24, 25, 26, 27, 28, 29]]))
  (.ret)))))))
theorem fn6 : env0.fn 6 = some ⟨78, ic6, [.t 6]⟩ := by kernel_rfl


set_option maxHeartbeats 4000000 in
theorem law6 (h13 : PF Try.prog 13 [] (.bool true)) (l : List Ex) (hlen : l.length < 9223372036854775808) (hsl : ∀ y ∈ l, Slim y) (n : Int) (e : List Int) : PF Try.prog 6 [.agg [.vs (cXs l)], .int .i64 n, vsI e] (.bool true) := by
  have h11 := few11 l hlen hsl
  have h24 := allowed24 l hsl e
  have h25 := allowed25 l hsl e
  have h26 := which26 l hsl e
  have h27 := which27 l hsl e
  have h28 := gcheck28 l hsl n
  have h29 := gcheck29 l hsl n
  refine PF_of_Z env0_ok fn6 [(0, .agg [.vs (cXs l)]), (1, .int .i64 n), (2, vsI e)] (by show 3 ≤ 78; decide) rfl fun w0 N0 => ?_
  unfold ic6
  repeat (first | refine z_seq ?_ | refine z_region rfl ?_ | refine o_nil ?_ | refine u_seq ?_ | refine o_mov rfl ?_ | refine o_loadn rfl rfl rfl rfl ?_ | refine o_box rfl rfl ?_)
  cases hf : fewB l with
  | false =>
    rw [hf] at h11
    refine o_call rfl rfl h11 (fun h => Bool.noConfusion (show false = true from h)) ?_
    repeat (first | refine z_seq ?_ | refine z_region rfl ?_ | refine o_nil ?_ | refine u_seq ?_ | refine z_ct rfl ?_ | refine o_gn rfl rfl ?_ | refine o_mov rfl ?_ | refine o_pickt rfl rfl ?_ | refine o_un rfl rfl ?_)
    refine o_call rfl rfl h13 (fun h => Bool.noConfusion (show false = true from h)) ?_
    repeat (first | refine o_nil ?_ | refine u_seq ?_ | refine z_ret ?_ | refine u_ret_seq ?_ | refine o_mov rfl ?_)
    exact u_end ⟨.inr rfl, _, rfl, rfl⟩
  | true =>
  rw [hf] at h11
  refine o_call rfl rfl h11 (fun h => Bool.noConfusion (show false = true from h)) ?_
  repeat (first | refine o_gy rfl ?_ | refine o_mov rfl ?_ | refine o_un rfl rfl ?_ | refine o_len rfl rfl ?_)
  refine o_cmp rfl rfl rfl (fun _ => ?_) fun _ => ?_
  · repeat (first | refine z_seq ?_ | refine z_region rfl ?_ | refine o_nil ?_ | refine u_seq ?_ | refine z_ct rfl ?_ | refine o_pickf rfl rfl ?_)
    refine o_call rfl rfl h13 (fun h => Bool.noConfusion (show false = true from h)) ?_
    repeat (first | refine o_nil ?_ | refine u_seq ?_ | refine z_ret ?_ | refine u_ret_seq ?_ | refine o_mov rfl ?_)
    exact u_end ⟨.inr rfl, _, rfl, rfl⟩
  repeat (first | refine z_seq ?_ | refine z_region rfl ?_ | refine o_nil ?_ | refine u_seq ?_ | refine z_skip ?_ | refine z_cf rfl ?_ | refine o_mov rfl ?_ | refine o_loadn rfl rfl rfl rfl ?_ | refine o_pickf rfl rfl ?_)
  unfold allowedV at h24 h25
  unfold whichV at h26 h27
  by_cases h1 : posC l e = 0
  · rw [if_pos h1] at h24 h25 h26 h27
    obtain ⟨g1, g2, g3, g4⟩ := guardC_ok (posC_ok h1).1
    have h16 := equal16 (trues l e) (trues l e) (Nat.le_trans (idxs_length _ _ _) (by omega))
    rw [decide_eq_true rfl] at h16
    generalize (trues l e).isEmpty = b at h24 h25
    generalize trues l e = tt at h16 h26 h27
    cases b
    all_goals
      refine o_call rfl rfl h24 (fun h => Bool.noConfusion (show false = true from h)) ?_
      repeat (first | refine z_seq ?_ | refine z_region rfl ?_ | refine o_nil ?_ | refine u_seq ?_ | refine o_mov rfl ?_ | refine o_loadn rfl rfl rfl rfl ?_ | refine o_extract rfl rfl ?_)
      refine o_call rfl rfl h25 (fun h => Bool.noConfusion (show false = true from h)) ?_
      repeat (first | refine z_seq ?_ | refine z_region rfl ?_ | refine o_nil ?_ | refine u_seq ?_ | refine o_mov rfl ?_ | refine o_loadn rfl rfl rfl rfl ?_ | refine o_extract rfl rfl ?_)
      refine o_call rfl rfl h26 (fun h => Bool.noConfusion (show false = true from h)) ?_
      repeat (first | refine z_seq ?_ | refine z_region rfl ?_ | refine o_nil ?_ | refine u_seq ?_ | refine o_mov rfl ?_ | refine o_loadn rfl rfl rfl rfl ?_ | refine o_extract rfl rfl ?_)
      refine o_call rfl rfl h27 (fun h => Bool.noConfusion (show false = true from h)) ?_
      repeat (first | refine z_seq ?_ | refine o_nil ?_ | refine u_seq ?_ | refine o_mov rfl ?_ | refine o_extract rfl rfl ?_)
      refine z_drawn env0_ok [(28, [.agg [.vs (cXs l)], .int .i64 n], .int .i64 (guardC l n)), (29, [.agg [.vs (cXs l)], .int .i64 n], .int .i64 (guardC l n)), (16, [vsI tt, vsI tt], .bool true), (13, [], .bool true)] (fun x hx => by
        rcases List.mem_cons.1 hx with rfl | hx
        · exact h28
        rcases List.mem_cons.1 hx with rfl | hx
        · exact h29
        rcases List.mem_cons.1 hx with rfl | hx
        · exact h16
        obtain rfl := List.mem_singleton.1 hx
        exact h13) (fun f => Nat.beq f 28 || Nat.beq f 29 || Nat.beq f 16 || Nat.beq f 13) rfl rfl rfl ?_
      repeat (first | refine o_mov rfl ?_ | refine o_loadn rfl rfl rfl rfl ?_)
      refine o_call rfl rfl lookL_here (fun h => Bool.noConfusion (show false = true from h)) ?_
      repeat (first | refine o_mov rfl ?_ | refine o_loadn rfl rfl rfl rfl ?_)
      refine o_call rfl rfl (lookL_next (by decide) lookL_here) (fun h => Bool.noConfusion (show false = true from h)) ?_
      refine o_cmp rfl rfl rfl (fun _ => ?_) fun h => absurd h (by simp)
      repeat (first | refine o_gy rfl ?_ | refine o_mov rfl ?_ | refine o_pickt rfl rfl ?_ | refine o_eqbt rfl rfl rfl ?_ | refine o_cmpt rfl rfl rfl ?_)
      refine o_call rfl rfl (lookL_next (by decide) (lookL_next (by decide) lookL_here)) (fun h => Bool.noConfusion (show false = true from h)) ?_
      repeat (first | refine o_gy rfl ?_ | refine o_mov rfl ?_ | refine o_pickt rfl rfl ?_ | refine o_cmpt rfl rfl rfl ?_)
      refine o_call rfl rfl (lookL_next (by decide) (lookL_next (by decide) (lookL_next (by decide) lookL_here))) (fun h => Bool.noConfusion (show false = true from h)) ?_
      repeat (first | refine o_nil ?_ | refine u_seq ?_ | refine z_ret ?_ | refine o_mov rfl ?_ | refine o_pickt rfl rfl ?_)
      exact u_end ⟨.inr rfl, _, rfl, rfl⟩

  · rw [if_neg h1] at h24 h25 h26 h27
    have h16 := equal16 [] [] (by decide)
    rw [decide_eq_true rfl] at h16
    generalize posC l e = p at h24 h25 h26 h27
    refine o_call rfl rfl h24 (fun h => Bool.noConfusion (show false = true from h)) ?_
    repeat (first | refine z_seq ?_ | refine z_region rfl ?_ | refine o_nil ?_ | refine u_seq ?_ | refine o_mov rfl ?_ | refine o_loadn rfl rfl rfl rfl ?_ | refine o_extract rfl rfl ?_)
    refine o_call rfl rfl h25 (fun h => Bool.noConfusion (show false = true from h)) ?_
    repeat (first | refine z_seq ?_ | refine z_region rfl ?_ | refine o_nil ?_ | refine u_seq ?_ | refine o_mov rfl ?_ | refine o_loadn rfl rfl rfl rfl ?_ | refine o_extract rfl rfl ?_)
    refine o_call rfl rfl h26 (fun h => Bool.noConfusion (show false = true from h)) ?_
    repeat (first | refine z_seq ?_ | refine z_region rfl ?_ | refine o_nil ?_ | refine u_seq ?_ | refine o_mov rfl ?_ | refine o_loadn rfl rfl rfl rfl ?_ | refine o_extract rfl rfl ?_)
    refine o_call rfl rfl h27 (fun h => Bool.noConfusion (show false = true from h)) ?_
    repeat (first | refine z_seq ?_ | refine o_nil ?_ | refine u_seq ?_ | refine o_mov rfl ?_ | refine o_extract rfl rfl ?_)
    refine z_drawn env0_ok [(28, [.agg [.vs (cXs l)], .int .i64 n], .int .i64 (guardC l n)), (29, [.agg [.vs (cXs l)], .int .i64 n], .int .i64 (guardC l n)), (16, [vsI [], vsI []], .bool true), (13, [], .bool true)] (fun x hx => by
      rcases List.mem_cons.1 hx with rfl | hx
      · exact h28
      rcases List.mem_cons.1 hx with rfl | hx
      · exact h29
      rcases List.mem_cons.1 hx with rfl | hx
      · exact h16
      obtain rfl := List.mem_singleton.1 hx
      exact h13) (fun f => Nat.beq f 28 || Nat.beq f 29 || Nat.beq f 16 || Nat.beq f 13) rfl rfl rfl ?_
    repeat (first | refine o_mov rfl ?_ | refine o_loadn rfl rfl rfl rfl ?_)
    refine o_call rfl rfl lookL_here (fun h => Bool.noConfusion (show false = true from h)) ?_
    repeat (first | refine o_mov rfl ?_ | refine o_loadn rfl rfl rfl rfl ?_)
    refine o_call rfl rfl (lookL_next (by decide) lookL_here) (fun h => Bool.noConfusion (show false = true from h)) ?_
    refine o_cmp rfl rfl rfl (fun _ => ?_) fun h => absurd h (by simp)
    repeat (first | refine o_gy rfl ?_ | refine o_mov rfl ?_ | refine o_pickt rfl rfl ?_ | refine o_eqbt rfl rfl rfl ?_)
    refine o_cmp rfl rfl rfl (fun _ => ?_) fun h => absurd h (by simp)
    repeat (first | refine o_gy rfl ?_ | refine o_mov rfl ?_ | refine o_pickt rfl rfl ?_)
    refine o_call rfl rfl (lookL_next (by decide) (lookL_next (by decide) lookL_here)) (fun h => Bool.noConfusion (show false = true from h)) ?_
    repeat (first | refine o_gy rfl ?_ | refine o_mov rfl ?_ | refine o_pickt rfl rfl ?_)
    refine o_cmp rfl rfl rfl (fun _ => ?_) fun h => absurd h (by simp)
    repeat (first | refine o_gy rfl ?_ | refine o_mov rfl ?_ | refine o_pickt rfl rfl ?_)
    refine o_call rfl rfl (lookL_next (by decide) (lookL_next (by decide) (lookL_next (by decide) lookL_here))) (fun h => Bool.noConfusion (show false = true from h)) ?_
    repeat (first | refine o_nil ?_ | refine u_seq ?_ | refine z_ret ?_ | refine o_mov rfl ?_ | refine o_pickt rfl rfl ?_)
    exact u_end ⟨.inr rfl, _, rfl, rfl⟩

end Go.Proofs.Ytofkihmckookjaa
