/-
  THE NODES OF AN EXPRESSION: the reference's node, nodes, Light and Check.
-/
import Derived.Test.YtofkihmckookjaaR8
namespace Go.Proofs.Ytofkihmckookjaa
open Go Go.Am

-- pneumatic/pneumaticref05.node
def ic104 : IC := .seq (.region [⟨(some 2), .box (.t 0), none⟩,
    ⟨(some 4), .mov (.c (.int .i64 0)), none⟩] none)
  (.seq (.seq (.region [⟨(some 7), .faddr 0 (.t 2), none⟩,
    ⟨(some 8), .load none (.t 7), none⟩,
    ⟨(some 9), .bin .lss (.t 8) (.c (.int .i64 0)), none⟩,
    ⟨(some 10), .mov (.t 9), none⟩,
    ⟨(some 11), .faddr 0 (.t 2), some (10, false)⟩,
    ⟨(some 12), .load none (.t 11), some (10, false)⟩,
    ⟨(some 13), .bin .geq (.t 12) (.c (.int .i64 5)), some (10, false)⟩,
    ⟨(some 14), .pick (.t 10) (.c (.bool true)) (.t 13), none⟩] none)
  (.cond (.t 14) (.seq (.region [⟨(some 4), .mov (.c (.int .i64 1)), none⟩] none)
  (.ret))
  (.skip)))
  (.seq (.region [⟨(some 15), .faddr 2 (.t 2), none⟩,
    ⟨(some 16), .load none (.t 15), none⟩,
    ⟨(some 17), .len false (.t 16), none⟩,
    ⟨(some 5), .mov (.t 17), none⟩] none)
  (.seq (.seq (.region [⟨(some 18), .faddr 0 (.t 2), none⟩,
    ⟨(some 19), .load none (.t 18), none⟩,
    ⟨(some 20), .bin .leq (.t 19) (.c (.int .i64 1)), none⟩,
    ⟨(some 21), .mov (.t 20), none⟩,
    ⟨(some 22), .mov (.t 5), some (21, true)⟩,
    ⟨(some 23), .bin .neq (.t 22) (.c (.int .i64 0)), some (21, true)⟩,
    ⟨(some 24), .pick (.t 21) (.t 23) (.c (.bool false)), none⟩,
    ⟨(some 25), .mov (.t 24), none⟩,
    ⟨(some 26), .faddr 0 (.t 2), some (25, false)⟩,
    ⟨(some 27), .load none (.t 26), some (25, false)⟩,
    ⟨(some 28), .bin .eql (.t 27) (.c (.int .i64 2)), some (25, false)⟩,
    ⟨(some 29), .mov (.t 28), some (25, false)⟩,
    ⟨(some 30), .mov (.t 5), some (29, true)⟩,
    ⟨(some 31), .bin .neq (.t 30) (.c (.int .i64 1)), some (29, true)⟩,
    ⟨(some 32), .pick (.t 29) (.t 31) (.c (.bool false)), some (25, false)⟩,
    ⟨(some 33), .pick (.t 25) (.c (.bool true)) (.t 32), none⟩,
    ⟨(some 34), .mov (.t 33), none⟩,
    ⟨(some 35), .faddr 0 (.t 2), some (34, false)⟩,
    ⟨(some 36), .load none (.t 35), some (34, false)⟩,
    ⟨(some 37), .bin .geq (.t 36) (.c (.int .i64 3)), some (34, false)⟩,
    ⟨(some 38), .mov (.t 37), some (34, false)⟩,
    ⟨(some 39), .mov (.t 5), some (38, true)⟩,
    ⟨(some 40), .bin .lss (.t 39) (.c (.int .i64 2)), some (38, true)⟩,
    ⟨(some 41), .pick (.t 38) (.t 40) (.c (.bool false)), some (34, false)⟩,
    ⟨(some 42), .pick (.t 34) (.c (.bool true)) (.t 41), none⟩] none)
  (.cond (.t 42) (.seq (.region [⟨(some 4), .mov (.c (.int .i64 3)), none⟩] none)
  (.ret))
  (.skip)))
  (.seq (.region [⟨(some 6), .mov (.c (.int .i64 1)), none⟩] none)
  (.seq (.seq (.region [⟨(some 43), .faddr 0 (.t 2), none⟩,
    ⟨(some 44), .load none (.t 43), none⟩,
    ⟨(some 45), .bin .eql (.t 44) (.c (.int .i64 0)), none⟩] none)
  (.cond (.t 45) (.region [⟨(some 6), .mov (.c (.int .i64 2)), none⟩] none)
  (.skip)))
  (.seq (.seq (.region [⟨(some 46), .faddr 0 (.t 2), none⟩,
    ⟨(some 47), .load none (.t 46), none⟩,
    ⟨(some 48), .bin .eql (.t 47) (.c (.int .i64 1)), none⟩] none)
  (.cond (.t 48) (.region [⟨(some 49), .mov (.t 1), none⟩,
    ⟨(some 6), .mov (.t 49), none⟩] none)
  (.skip)))
  (.seq (.seq (.region [⟨(some 50), .faddr 1 (.t 2), none⟩,
    ⟨(some 51), .load none (.t 50), none⟩,
    ⟨(some 52), .bin .lss (.t 51) (.c (.int .i64 0)), none⟩,
    ⟨(some 53), .mov (.t 52), none⟩,
    ⟨(some 54), .faddr 1 (.t 2), some (53, false)⟩,
    ⟨(some 55), .load none (.t 54), some (53, false)⟩,
    ⟨(some 56), .mov (.t 6), some (53, false)⟩,
    ⟨(some 57), .bin .geq (.t 55) (.t 56), some (53, false)⟩,
    ⟨(some 58), .pick (.t 53) (.c (.bool true)) (.t 57), none⟩] none)
  (.cond (.t 58) (.seq (.region [⟨(some 4), .mov (.c (.int .i64 2)), none⟩] none)
  (.ret))
  (.skip)))
  (.seq (.region [⟨(some 4), .mov (.c (.int .i64 0)), none⟩] none)
  (.ret)))))))))
theorem fn104 : env0.fn 104 = some ⟨59, ic104, [.t 4]⟩ := by kernel_rfl


set_option maxHeartbeats 4000000 in
theorem node104 (op ix n : Int) (args : List Ex) (hk : args.length ≤ 256) : PF Try.prog 104 [.agg (cX (.nd op ix args)), .int .i64 n] (.int .i64 (nodeV op ix args.length n)) := by
  refine PF_of_Z env0_ok fn104 [(0, .agg (cX (.nd op ix args))), (1, .int .i64 n)] (by show 2 ≤ 59; decide) rfl fun w0 N0 => ?_
  unfold ic104
  repeat (first | refine z_seq ?_ | refine z_region rfl ?_ | refine o_nil ?_ | refine u_seq ?_ | refine o_mov rfl ?_ | refine o_load rfl rfl ?_ | refine o_faddrm rfl ?_ | refine o_box rfl rfl ?_)
  refine o_cmp rfl rfl rfl (fun h1 => ?_) fun h1 => ?_
  · have h1 := of_decide_eq_true h1
    repeat (first | refine z_seq ?_ | refine z_region rfl ?_ | refine o_nil ?_ | refine u_seq ?_ | refine z_ct rfl ?_ | refine z_ret ?_ | refine u_ret_seq ?_ | refine o_gn rfl rfl ?_ | refine o_mov rfl ?_ | refine o_pickt rfl rfl ?_)
    refine u_end ⟨.inr rfl, _, rfl, ?_⟩
    unfold nodeV
    rw [if_pos (.inl h1)]
    rfl
  have h1 := of_decide_eq_false h1
  repeat (first | refine o_gy rfl ?_ | refine o_mov rfl ?_ | refine o_load rfl rfl ?_ | refine o_faddrm rfl ?_)
  refine o_cmp rfl rfl rfl (fun h2 => ?_) fun h2 => ?_
  · have h2 := of_decide_eq_true h2
    repeat (first | refine z_seq ?_ | refine z_region rfl ?_ | refine o_nil ?_ | refine u_seq ?_ | refine z_ct rfl ?_ | refine z_ret ?_ | refine u_ret_seq ?_ | refine o_mov rfl ?_ | refine o_pickf rfl rfl ?_)
    refine u_end ⟨.inr rfl, _, rfl, ?_⟩
    unfold nodeV
    rw [if_pos (.inr h2)]
    rfl
  have h2 := of_decide_eq_false h2
  have hlen : ((cXs args).length : Int) = (args.length : Int) := by rw [cXs_length]
  have hop : op = 0 ∨ op = 1 ∨ op = 2 ∨ op = 3 ∨ op = 4 := by omega
  rcases hop with rfl | rfl | rfl | rfl | rfl
  · repeat (first | refine z_seq ?_ | refine z_region rfl ?_ | refine o_nil ?_ | refine u_seq ?_ | refine z_skip ?_ | refine z_cf rfl ?_ | refine o_gy rfl ?_ | refine o_mov rfl ?_ | refine o_load rfl rfl ?_ | refine o_faddrm rfl ?_ | refine o_pickf rfl rfl ?_ | refine o_len rfl rfl ?_ | refine o_cmpt rfl rfl rfl ?_)
    refine o_cmp rfl rfl rfl (fun h3 => ?_) fun h3 => ?_
    · have h3 := bne_iff_ne.1 h3
      repeat (first | refine z_seq ?_ | refine z_region rfl ?_ | refine o_nil ?_ | refine u_seq ?_ | refine z_ct rfl ?_ | refine z_ret ?_ | refine u_ret_seq ?_ | refine o_gn rfl rfl ?_ | refine o_gt rfl ?_ | refine o_mov rfl ?_ | refine o_pickt rfl rfl ?_)
      refine u_end ⟨.inr rfl, _, rfl, ?_⟩
      show AV.int .i64 3 = AV.int .i64 _
      exact congrArg _ (by simp (decide := true) only [nodeV, leastA, mostA, mostI, if_true, if_false]; (repeat' split) <;> omega)
    have h3a : ((cXs args).length : Int) = 0 := by simpa using h3
    clear h3
    repeat (first | refine z_seq ?_ | refine z_region rfl ?_ | refine o_nil ?_ | refine u_seq ?_ | refine z_skip ?_ | refine z_ct rfl ?_ | refine z_cf rfl ?_ | refine o_gy rfl ?_ | refine o_gn rfl rfl ?_ | refine o_mov rfl ?_ | refine o_load rfl rfl ?_ | refine o_faddrm rfl ?_ | refine o_pickt rfl rfl ?_ | refine o_pickf rfl rfl ?_ | refine o_cmpt rfl rfl rfl ?_ | refine o_cmpf rfl rfl rfl ?_)
    refine o_cmp rfl rfl rfl (fun h4 => ?_) fun h4 => ?_
    · have h4 := of_decide_eq_true h4
      repeat (first | refine z_seq ?_ | refine z_region rfl ?_ | refine o_nil ?_ | refine u_seq ?_ | refine z_ct rfl ?_ | refine z_ret ?_ | refine u_ret_seq ?_ | refine o_gn rfl rfl ?_ | refine o_mov rfl ?_ | refine o_pickt rfl rfl ?_)
      refine u_end ⟨.inr rfl, _, rfl, ?_⟩
      show AV.int .i64 2 = AV.int .i64 _
      exact congrArg _ (by simp (decide := true) only [nodeV, leastA, mostA, mostI, if_true, if_false]; (repeat' split) <;> omega)
    have h4a := of_decide_eq_false h4
    clear h4
    repeat (first | refine o_gy rfl ?_ | refine o_mov rfl ?_ | refine o_load rfl rfl ?_ | refine o_faddrm rfl ?_)
    refine o_cmp rfl rfl rfl (fun h4 => ?_) fun h4 => ?_
    · have h4 := of_decide_eq_true h4
      repeat (first | refine z_seq ?_ | refine z_region rfl ?_ | refine o_nil ?_ | refine u_seq ?_ | refine z_ct rfl ?_ | refine z_ret ?_ | refine u_ret_seq ?_ | refine o_mov rfl ?_ | refine o_pickf rfl rfl ?_)
      refine u_end ⟨.inr rfl, _, rfl, ?_⟩
      show AV.int .i64 2 = AV.int .i64 _
      exact congrArg _ (by simp (decide := true) only [nodeV, leastA, mostA, mostI, if_true, if_false]; (repeat' split) <;> omega)
    have h4b := of_decide_eq_false h4
    repeat (first | refine z_seq ?_ | refine z_region rfl ?_ | refine o_nil ?_ | refine u_seq ?_ | refine z_skip ?_ | refine z_cf rfl ?_ | refine z_ret ?_ | refine o_mov rfl ?_ | refine o_pickf rfl rfl ?_)
    refine u_end ⟨.inr rfl, _, rfl, ?_⟩
    show AV.int .i64 0 = AV.int .i64 _
    exact congrArg _ (by simp (decide := true) only [nodeV, leastA, mostA, mostI, if_true, if_false]; (repeat' split) <;> omega)
  · repeat (first | refine z_seq ?_ | refine z_region rfl ?_ | refine o_nil ?_ | refine u_seq ?_ | refine z_skip ?_ | refine z_cf rfl ?_ | refine o_gy rfl ?_ | refine o_mov rfl ?_ | refine o_load rfl rfl ?_ | refine o_faddrm rfl ?_ | refine o_pickf rfl rfl ?_ | refine o_len rfl rfl ?_ | refine o_cmpt rfl rfl rfl ?_)
    refine o_cmp rfl rfl rfl (fun h3 => ?_) fun h3 => ?_
    · have h3 := bne_iff_ne.1 h3
      repeat (first | refine z_seq ?_ | refine z_region rfl ?_ | refine o_nil ?_ | refine u_seq ?_ | refine z_ct rfl ?_ | refine z_ret ?_ | refine u_ret_seq ?_ | refine o_gn rfl rfl ?_ | refine o_gt rfl ?_ | refine o_mov rfl ?_ | refine o_pickt rfl rfl ?_)
      refine u_end ⟨.inr rfl, _, rfl, ?_⟩
      show AV.int .i64 3 = AV.int .i64 _
      exact congrArg _ (by simp (decide := true) only [nodeV, leastA, mostA, mostI, if_true, if_false]; (repeat' split) <;> omega)
    have h3a : ((cXs args).length : Int) = 0 := by simpa using h3
    clear h3
    repeat (first | refine z_seq ?_ | refine z_region rfl ?_ | refine o_nil ?_ | refine u_seq ?_ | refine z_skip ?_ | refine z_ct rfl ?_ | refine z_cf rfl ?_ | refine o_gy rfl ?_ | refine o_gn rfl rfl ?_ | refine o_mov rfl ?_ | refine o_load rfl rfl ?_ | refine o_faddrm rfl ?_ | refine o_pickt rfl rfl ?_ | refine o_pickf rfl rfl ?_ | refine o_cmpt rfl rfl rfl ?_ | refine o_cmpf rfl rfl rfl ?_)
    refine o_cmp rfl rfl rfl (fun h4 => ?_) fun h4 => ?_
    · have h4 := of_decide_eq_true h4
      repeat (first | refine z_seq ?_ | refine z_region rfl ?_ | refine o_nil ?_ | refine u_seq ?_ | refine z_ct rfl ?_ | refine z_ret ?_ | refine u_ret_seq ?_ | refine o_gn rfl rfl ?_ | refine o_mov rfl ?_ | refine o_pickt rfl rfl ?_)
      refine u_end ⟨.inr rfl, _, rfl, ?_⟩
      show AV.int .i64 2 = AV.int .i64 _
      exact congrArg _ (by simp (decide := true) only [nodeV, leastA, mostA, mostI, if_true, if_false]; (repeat' split) <;> omega)
    have h4a := of_decide_eq_false h4
    clear h4
    repeat (first | refine o_gy rfl ?_ | refine o_mov rfl ?_ | refine o_load rfl rfl ?_ | refine o_faddrm rfl ?_)
    refine o_cmp rfl rfl rfl (fun h4 => ?_) fun h4 => ?_
    · have h4 := of_decide_eq_true h4
      repeat (first | refine z_seq ?_ | refine z_region rfl ?_ | refine o_nil ?_ | refine u_seq ?_ | refine z_ct rfl ?_ | refine z_ret ?_ | refine u_ret_seq ?_ | refine o_mov rfl ?_ | refine o_pickf rfl rfl ?_)
      refine u_end ⟨.inr rfl, _, rfl, ?_⟩
      show AV.int .i64 2 = AV.int .i64 _
      exact congrArg _ (by simp (decide := true) only [nodeV, leastA, mostA, mostI, if_true, if_false]; (repeat' split) <;> omega)
    have h4b := of_decide_eq_false h4
    repeat (first | refine z_seq ?_ | refine z_region rfl ?_ | refine o_nil ?_ | refine u_seq ?_ | refine z_skip ?_ | refine z_cf rfl ?_ | refine z_ret ?_ | refine o_mov rfl ?_ | refine o_pickf rfl rfl ?_)
    refine u_end ⟨.inr rfl, _, rfl, ?_⟩
    show AV.int .i64 0 = AV.int .i64 _
    exact congrArg _ (by simp (decide := true) only [nodeV, leastA, mostA, mostI, if_true, if_false]; (repeat' split) <;> omega)
  · repeat (first | refine z_seq ?_ | refine z_region rfl ?_ | refine o_nil ?_ | refine u_seq ?_ | refine z_skip ?_ | refine z_cf rfl ?_ | refine o_gy rfl ?_ | refine o_gn rfl rfl ?_ | refine o_mov rfl ?_ | refine o_load rfl rfl ?_ | refine o_faddrm rfl ?_ | refine o_pickf rfl rfl ?_ | refine o_len rfl rfl ?_ | refine o_cmpt rfl rfl rfl ?_ | refine o_cmpf rfl rfl rfl ?_)
    refine o_cmp rfl rfl rfl (fun h3 => ?_) fun h3 => ?_
    · have h3 := bne_iff_ne.1 h3
      repeat (first | refine z_seq ?_ | refine z_region rfl ?_ | refine o_nil ?_ | refine u_seq ?_ | refine z_ct rfl ?_ | refine z_ret ?_ | refine u_ret_seq ?_ | refine o_gy rfl ?_ | refine o_gn rfl rfl ?_ | refine o_gt rfl ?_ | refine o_mov rfl ?_ | refine o_pickt rfl rfl ?_ | refine o_pickf rfl rfl ?_)
      refine u_end ⟨.inr rfl, _, rfl, ?_⟩
      show AV.int .i64 3 = AV.int .i64 _
      exact congrArg _ (by simp (decide := true) only [nodeV, leastA, mostA, mostI, if_true, if_false]; (repeat' split) <;> omega)
    have h3a : ((cXs args).length : Int) = 1 := by simpa using h3
    clear h3
    repeat (first | refine z_seq ?_ | refine z_region rfl ?_ | refine o_nil ?_ | refine u_seq ?_ | refine z_skip ?_ | refine z_cf rfl ?_ | refine o_gy rfl ?_ | refine o_gn rfl rfl ?_ | refine o_mov rfl ?_ | refine o_load rfl rfl ?_ | refine o_faddrm rfl ?_ | refine o_pickt rfl rfl ?_ | refine o_pickf rfl rfl ?_ | refine o_cmpf rfl rfl rfl ?_)
    refine o_cmp rfl rfl rfl (fun h4 => ?_) fun h4 => ?_
    · have h4 := of_decide_eq_true h4
      repeat (first | refine z_seq ?_ | refine z_region rfl ?_ | refine o_nil ?_ | refine u_seq ?_ | refine z_ct rfl ?_ | refine z_ret ?_ | refine u_ret_seq ?_ | refine o_gn rfl rfl ?_ | refine o_mov rfl ?_ | refine o_pickt rfl rfl ?_)
      refine u_end ⟨.inr rfl, _, rfl, ?_⟩
      show AV.int .i64 2 = AV.int .i64 _
      exact congrArg _ (by simp (decide := true) only [nodeV, leastA, mostA, mostI, if_true, if_false]; (repeat' split) <;> omega)
    have h4a := of_decide_eq_false h4
    clear h4
    repeat (first | refine o_gy rfl ?_ | refine o_mov rfl ?_ | refine o_load rfl rfl ?_ | refine o_faddrm rfl ?_)
    refine o_cmp rfl rfl rfl (fun h4 => ?_) fun h4 => ?_
    · have h4 := of_decide_eq_true h4
      repeat (first | refine z_seq ?_ | refine z_region rfl ?_ | refine o_nil ?_ | refine u_seq ?_ | refine z_ct rfl ?_ | refine z_ret ?_ | refine u_ret_seq ?_ | refine o_mov rfl ?_ | refine o_pickf rfl rfl ?_)
      refine u_end ⟨.inr rfl, _, rfl, ?_⟩
      show AV.int .i64 2 = AV.int .i64 _
      exact congrArg _ (by simp (decide := true) only [nodeV, leastA, mostA, mostI, if_true, if_false]; (repeat' split) <;> omega)
    have h4b := of_decide_eq_false h4
    repeat (first | refine z_seq ?_ | refine z_region rfl ?_ | refine o_nil ?_ | refine u_seq ?_ | refine z_skip ?_ | refine z_cf rfl ?_ | refine z_ret ?_ | refine o_mov rfl ?_ | refine o_pickf rfl rfl ?_)
    refine u_end ⟨.inr rfl, _, rfl, ?_⟩
    show AV.int .i64 0 = AV.int .i64 _
    exact congrArg _ (by simp (decide := true) only [nodeV, leastA, mostA, mostI, if_true, if_false]; (repeat' split) <;> omega)
  · repeat (first | refine z_seq ?_ | refine z_region rfl ?_ | refine o_nil ?_ | refine u_seq ?_ | refine z_skip ?_ | refine z_cf rfl ?_ | refine o_gy rfl ?_ | refine o_gn rfl rfl ?_ | refine o_mov rfl ?_ | refine o_load rfl rfl ?_ | refine o_faddrm rfl ?_ | refine o_pickf rfl rfl ?_ | refine o_len rfl rfl ?_ | refine o_cmpt rfl rfl rfl ?_ | refine o_cmpf rfl rfl rfl ?_)
    refine o_cmp rfl rfl rfl (fun h3 => ?_) fun h3 => ?_
    · have h3 := of_decide_eq_true h3
      repeat (first | refine z_seq ?_ | refine z_region rfl ?_ | refine o_nil ?_ | refine u_seq ?_ | refine z_ct rfl ?_ | refine z_ret ?_ | refine u_ret_seq ?_ | refine o_gy rfl ?_ | refine o_mov rfl ?_ | refine o_pickt rfl rfl ?_ | refine o_pickf rfl rfl ?_)
      refine u_end ⟨.inr rfl, _, rfl, ?_⟩
      show AV.int .i64 3 = AV.int .i64 _
      exact congrArg _ (by simp (decide := true) only [nodeV, leastA, mostA, mostI, if_true, if_false]; (repeat' split) <;> omega)
    have h3a := of_decide_eq_false h3
    clear h3
    repeat (first | refine z_seq ?_ | refine z_region rfl ?_ | refine o_nil ?_ | refine u_seq ?_ | refine z_skip ?_ | refine z_cf rfl ?_ | refine o_gy rfl ?_ | refine o_mov rfl ?_ | refine o_load rfl rfl ?_ | refine o_faddrm rfl ?_ | refine o_pickt rfl rfl ?_ | refine o_pickf rfl rfl ?_ | refine o_cmpf rfl rfl rfl ?_)
    refine o_cmp rfl rfl rfl (fun h4 => ?_) fun h4 => ?_
    · have h4 := of_decide_eq_true h4
      repeat (first | refine z_seq ?_ | refine z_region rfl ?_ | refine o_nil ?_ | refine u_seq ?_ | refine z_ct rfl ?_ | refine z_ret ?_ | refine u_ret_seq ?_ | refine o_gn rfl rfl ?_ | refine o_mov rfl ?_ | refine o_pickt rfl rfl ?_)
      refine u_end ⟨.inr rfl, _, rfl, ?_⟩
      show AV.int .i64 2 = AV.int .i64 _
      exact congrArg _ (by simp (decide := true) only [nodeV, leastA, mostA, mostI, if_true, if_false]; (repeat' split) <;> omega)
    have h4a := of_decide_eq_false h4
    clear h4
    repeat (first | refine o_gy rfl ?_ | refine o_mov rfl ?_ | refine o_load rfl rfl ?_ | refine o_faddrm rfl ?_)
    refine o_cmp rfl rfl rfl (fun h4 => ?_) fun h4 => ?_
    · have h4 := of_decide_eq_true h4
      repeat (first | refine z_seq ?_ | refine z_region rfl ?_ | refine o_nil ?_ | refine u_seq ?_ | refine z_ct rfl ?_ | refine z_ret ?_ | refine u_ret_seq ?_ | refine o_mov rfl ?_ | refine o_pickf rfl rfl ?_)
      refine u_end ⟨.inr rfl, _, rfl, ?_⟩
      show AV.int .i64 2 = AV.int .i64 _
      exact congrArg _ (by simp (decide := true) only [nodeV, leastA, mostA, mostI, if_true, if_false]; (repeat' split) <;> omega)
    have h4b := of_decide_eq_false h4
    repeat (first | refine z_seq ?_ | refine z_region rfl ?_ | refine o_nil ?_ | refine u_seq ?_ | refine z_skip ?_ | refine z_cf rfl ?_ | refine z_ret ?_ | refine o_mov rfl ?_ | refine o_pickf rfl rfl ?_)
    refine u_end ⟨.inr rfl, _, rfl, ?_⟩
    show AV.int .i64 0 = AV.int .i64 _
    exact congrArg _ (by simp (decide := true) only [nodeV, leastA, mostA, mostI, if_true, if_false]; (repeat' split) <;> omega)
  · repeat (first | refine z_seq ?_ | refine z_region rfl ?_ | refine o_nil ?_ | refine u_seq ?_ | refine z_skip ?_ | refine z_cf rfl ?_ | refine o_gy rfl ?_ | refine o_gn rfl rfl ?_ | refine o_mov rfl ?_ | refine o_load rfl rfl ?_ | refine o_faddrm rfl ?_ | refine o_pickf rfl rfl ?_ | refine o_len rfl rfl ?_ | refine o_cmpt rfl rfl rfl ?_ | refine o_cmpf rfl rfl rfl ?_)
    refine o_cmp rfl rfl rfl (fun h3 => ?_) fun h3 => ?_
    · have h3 := of_decide_eq_true h3
      repeat (first | refine z_seq ?_ | refine z_region rfl ?_ | refine o_nil ?_ | refine u_seq ?_ | refine z_ct rfl ?_ | refine z_ret ?_ | refine u_ret_seq ?_ | refine o_gy rfl ?_ | refine o_mov rfl ?_ | refine o_pickt rfl rfl ?_ | refine o_pickf rfl rfl ?_)
      refine u_end ⟨.inr rfl, _, rfl, ?_⟩
      show AV.int .i64 3 = AV.int .i64 _
      exact congrArg _ (by simp (decide := true) only [nodeV, leastA, mostA, mostI, if_true, if_false]; (repeat' split) <;> omega)
    have h3a := of_decide_eq_false h3
    clear h3
    repeat (first | refine z_seq ?_ | refine z_region rfl ?_ | refine o_nil ?_ | refine u_seq ?_ | refine z_skip ?_ | refine z_cf rfl ?_ | refine o_gy rfl ?_ | refine o_mov rfl ?_ | refine o_load rfl rfl ?_ | refine o_faddrm rfl ?_ | refine o_pickt rfl rfl ?_ | refine o_pickf rfl rfl ?_ | refine o_cmpf rfl rfl rfl ?_)
    refine o_cmp rfl rfl rfl (fun h4 => ?_) fun h4 => ?_
    · have h4 := of_decide_eq_true h4
      repeat (first | refine z_seq ?_ | refine z_region rfl ?_ | refine o_nil ?_ | refine u_seq ?_ | refine z_ct rfl ?_ | refine z_ret ?_ | refine u_ret_seq ?_ | refine o_gn rfl rfl ?_ | refine o_mov rfl ?_ | refine o_pickt rfl rfl ?_)
      refine u_end ⟨.inr rfl, _, rfl, ?_⟩
      show AV.int .i64 2 = AV.int .i64 _
      exact congrArg _ (by simp (decide := true) only [nodeV, leastA, mostA, mostI, if_true, if_false]; (repeat' split) <;> omega)
    have h4a := of_decide_eq_false h4
    clear h4
    repeat (first | refine o_gy rfl ?_ | refine o_mov rfl ?_ | refine o_load rfl rfl ?_ | refine o_faddrm rfl ?_)
    refine o_cmp rfl rfl rfl (fun h4 => ?_) fun h4 => ?_
    · have h4 := of_decide_eq_true h4
      repeat (first | refine z_seq ?_ | refine z_region rfl ?_ | refine o_nil ?_ | refine u_seq ?_ | refine z_ct rfl ?_ | refine z_ret ?_ | refine u_ret_seq ?_ | refine o_mov rfl ?_ | refine o_pickf rfl rfl ?_)
      refine u_end ⟨.inr rfl, _, rfl, ?_⟩
      show AV.int .i64 2 = AV.int .i64 _
      exact congrArg _ (by simp (decide := true) only [nodeV, leastA, mostA, mostI, if_true, if_false]; (repeat' split) <;> omega)
    have h4b := of_decide_eq_false h4
    repeat (first | refine z_seq ?_ | refine z_region rfl ?_ | refine o_nil ?_ | refine u_seq ?_ | refine z_skip ?_ | refine z_cf rfl ?_ | refine z_ret ?_ | refine o_mov rfl ?_ | refine o_pickf rfl rfl ?_)
    refine u_end ⟨.inr rfl, _, rfl, ?_⟩
    show AV.int .i64 0 = AV.int .i64 _
    exact congrArg _ (by simp (decide := true) only [nodeV, leastA, mostA, mostI, if_true, if_false]; (repeat' split) <;> omega)

/-- No node has more than 256 arguments. -/
inductive Thin : Ex → Prop
  | nd {op ix : Int} {args : List Ex} (h : args.length ≤ 256) (k : ∀ y ∈ args, Thin y) : Thin (.nd op ix args)

theorem thin_args {op ix : Int} {args : List Ex} (h : Thin (.nd op ix args)) : args.length ≤ 256 ∧ ∀ y ∈ args, Thin y := by
  cases h with | nd h k => exact ⟨h, k⟩

mutual
def nds (n : Int) : Ex → Int
  | .nd op ix args => if nodeV op ix args.length n = 0 then ndsL n args else nodeV op ix args.length n
def ndsL (n : Int) : List Ex → Int
  | [] => 0
  | y :: ys => if nds n y = 0 then ndsL n ys else nds n y
end

def body89 : IC := .seq (.seq (.region [⟨(some 14), .mov (.t 6), none⟩,
    ⟨(some 15), .faddr 2 (.t 2), none⟩,
    ⟨(some 16), .load none (.t 15), none⟩,
    ⟨(some 17), .len false (.t 16), none⟩,
    ⟨(some 18), .bin .lss (.t 14) (.t 17), none⟩] none)
  (.cond (.t 18) (.skip)
  (.exit 0)))
  (.seq (.block 1 (.seq (.region [⟨(some 21), .faddr 2 (.t 2), none⟩,
    ⟨(some 22), .load none (.t 21), none⟩,
    ⟨(some 23), .mov (.t 6), none⟩,
    ⟨(some 24), .idxs 3 (.t 22) (.t 23), none⟩,
    ⟨(some 25), .load (some 3) (.t 24), none⟩,
    ⟨(some 26), .mov (.t 1), none⟩,
    ⟨(some 27), .call (.c (.fn 89 [] [])) [(.t 25), (.t 26)], none⟩,
    ⟨(some 7), .mov (.t 27), none⟩] none)
  (.seq (.region [⟨(some 28), .mov (.t 7), none⟩,
    ⟨(some 29), .bin .neq (.t 28) (.c (.int .i64 0)), none⟩] none)
  (.cond (.t 29) (.seq (.region [⟨(some 30), .mov (.t 7), none⟩,
    ⟨(some 4), .mov (.t 30), none⟩] none)
  (.ret))
  (.skip)))))
  (.region [⟨(some 19), .mov (.t 6), none⟩,
    ⟨(some 20), .bin .add (.t 19) (.c (.int .i64 1)), none⟩,
    ⟨(some 6), .mov (.t 20), none⟩] none))

-- pneumatic/pneumaticref05.nodes
def ic89 : IC := .seq (.region [⟨(some 2), .box (.t 0), none⟩,
    ⟨(some 4), .mov (.c (.int .i64 0)), none⟩] none)
  (.seq (.seq (.region [⟨(some 8), .load (some 3) (.t 2), none⟩,
    ⟨(some 9), .mov (.t 1), none⟩,
    ⟨(some 10), .call (.c (.fn 104 [] [])) [(.t 8), (.t 9)], none⟩,
    ⟨(some 5), .mov (.t 10), none⟩] none)
  (.seq (.region [⟨(some 11), .mov (.t 5), none⟩,
    ⟨(some 12), .bin .neq (.t 11) (.c (.int .i64 0)), none⟩] none)
  (.cond (.t 12) (.seq (.region [⟨(some 13), .mov (.t 5), none⟩,
    ⟨(some 4), .mov (.t 13), none⟩] none)
  (.ret))
  (.skip))))
  (.seq (.seq (.region [⟨(some 6), .mov (.c (.int .i64 0)), none⟩] none)
  (.block 0 (.loop body89)))
  (.seq (.region [⟨(some 4), .mov (.c (.int .i64 0)), none⟩] none)
  (.ret))))
theorem fn89 : env0.fn 89 = some ⟨31, ic89, [.t 4]⟩ := by kernel_rfl


set_option maxHeartbeats 2000000 in
theorem nodes89 (z : Int) : ∀ (q : Nat) (x : Ex), SizeOf.sizeOf x ≤ q → Thin x → PF Try.prog 89 [.agg (cX x), .int .i64 z] (.int .i64 (nds z x)) := by
  intro q
  induction q with
  | zero => intro x hq; cases x; simp at hq
  | succ q ih =>
    intro x hq hs
    obtain ⟨op, ix, args⟩ := x
    obtain ⟨hlen, hsl⟩ := thin_args hs
    refine PF_of_Z env0_ok fn89 [(0, .agg (cX (.nd op ix args))), (1, .int .i64 z)] (by show 2 ≤ 31; decide) rfl fun w0 N0 => ?_
    unfold ic89
    have hd : nds z (.nd op ix args) = if nodeV op ix args.length z = 0 then ndsL z args else nodeV op ix args.length z := by rw [nds]
    rw [hd]
    repeat (first | refine z_seq ?_ | refine z_region rfl ?_ | refine o_nil ?_ | refine u_seq ?_ | refine o_mov rfl ?_ | refine o_loadn rfl rfl rfl rfl ?_ | refine o_box rfl rfl ?_)
    refine o_call rfl rfl (node104 op ix z args hlen) (fun h => Bool.noConfusion (show false = true from h)) ?_
    repeat (first | refine z_seq ?_ | refine z_region rfl ?_ | refine o_nil ?_ | refine u_seq ?_ | refine o_mov rfl ?_)
    refine o_cmp rfl rfl rfl (fun h3 => ?_) fun h3 => ?_
    · have h3 := bne_iff_ne.1 h3
      rw [if_neg h3]
      repeat (first | refine z_seq ?_ | refine z_region rfl ?_ | refine o_nil ?_ | refine u_seq ?_ | refine z_ct rfl ?_ | refine z_ret ?_ | refine u_ret_seq ?_ | refine o_mov rfl ?_)
      exact u_end ⟨.inr rfl, _, rfl, rfl⟩
    have h3 : nodeV op ix args.length z = 0 := by simpa using h3
    rw [if_pos h3]
    repeat (first | refine z_seq ?_ | refine z_region rfl ?_ | refine o_nil ?_ | refine u_seq ?_ | refine z_block ?_ | refine z_skip ?_ | refine z_cf rfl ?_ | refine o_mov rfl ?_)
    refine z_loop (fun mm S => ∃ i, mm = args.length - i ∧ i ≤ args.length ∧ ndsL z args = ndsL z (args.drop i) ∧
        S = st 31 [(1, .int .i64 z), (2, .mptr 0 0 0), (6, .int .i64 (i : Nat))] [(0, 0, .cells (cX (.nd op ix args)))] 1 1) args.length
      (sub_keep (.cons rfl (.cons rfl (.cons rfl .nil)))) ⟨0, rfl, Nat.zero_le _, rfl, rfl⟩ ?_
    rintro mm S ⟨i, rfl, hi, hall, rfl⟩
    unfold body89
    repeat (first | refine z_seq ?_ | refine z_region rfl ?_ | refine o_mov rfl ?_ | refine o_load rfl rfl ?_ | refine o_faddrm rfl ?_ | refine o_len rfl rfl ?_)
    refine o_cmp rfl rfl rfl (fun h3 => ?_) fun h3 => ?_
    · have hlt : i < args.length := by
        have := of_decide_eq_true h3
        rw [cXs_length] at this
        omega
      have hdr : args.drop i = args[i] :: args.drop (i + 1) := List.drop_eq_getElem_cons hlt
      rw [hdr] at hall
      have hge := cXs_get hlt
      have hmem : args[i] ∈ args := List.getElem_mem hlt
      generalize args[i] = y at hall hge hmem
      obtain ⟨yo, yi, ya⟩ := y
      rw [ndsL] at hall
      repeat (first | refine z_seq ?_ | refine z_region rfl ?_ | refine o_nil ?_ | refine u_seq ?_ | refine z_block ?_ | refine z_skip ?_ | refine z_ct rfl ?_ | refine o_mov rfl ?_ | refine o_load rfl rfl ?_ | refine o_faddrm rfl ?_)
      refine o_idxs rfl rfl (Int.natCast_nonneg i) hge rfl ?_
      repeat (first | refine o_mov rfl ?_ | refine o_loadn rfl rfl rfl rfl ?_)
      refine o_call rfl rfl (ih (.nd yo yi ya) (by have := sz_mem (op := op) (ix := ix) hmem; omega) (hsl _ hmem)) (fun h => Bool.noConfusion (show false = true from h)) ?_
      repeat (first | refine z_seq ?_ | refine z_region rfl ?_ | refine o_nil ?_ | refine u_seq ?_ | refine o_mov rfl ?_)
      refine o_cmp rfl rfl rfl (fun h4 => ?_) fun h4 => ?_
      · have h4 := bne_iff_ne.1 h4
        rw [if_neg h4] at hall
        repeat (first | refine z_seq ?_ | refine z_region rfl ?_ | refine o_nil ?_ | refine u_seq ?_ | refine z_ct rfl ?_ | refine z_ret ?_ | refine u_ret_seq ?_ | refine u_ret_blk ?_ | refine o_mov rfl ?_)
        refine u_out_ret ?_
        repeat (first | refine u_ret_seq ?_ | refine u_ret_blk ?_)
        refine u_end ⟨.inr rfl, _, rfl, ?_⟩
        rw [hall]
        rfl
      · have h4 : nds z (.nd yo yi ya) = 0 := by simpa using h4
        rw [if_pos h4] at hall
        repeat (first | refine z_region rfl ?_ | refine o_nil ?_ | refine u_seq ?_ | refine u_blk ?_ | refine z_skip ?_ | refine z_cf rfl ?_ | refine o_mov rfl ?_ | refine o_bin (op := .add) rfl rfl rfl ?_)
        rw [wrap_succ i (by omega)]
        exact u_round (show args.length - (i + 1) < args.length - i by omega) (sub_keep (.cons rfl (.cons rfl (.cons rfl .nil)))) ⟨i + 1, rfl, hlt, hall, rfl⟩
    · have hi2 : i = args.length := by
        have := of_decide_eq_false h3
        rw [cXs_length] at this
        omega
      repeat (first | refine o_nil ?_ | refine u_seq ?_ | refine z_cf rfl ?_ | refine z_exit ?_ | refine u_exit_seq ?_)
      refine u_out ?_
      repeat (first | refine z_seq ?_ | refine z_region rfl ?_ | refine o_nil ?_ | refine u_seq ?_ | refine z_ret ?_ | refine u_exit ?_ | refine o_mov rfl ?_)
      refine u_end ⟨.inr rfl, _, rfl, ?_⟩
      subst hi2
      rw [hall, List.drop_length, ndsL]
      rfl

end Go.Proofs.Ytofkihmckookjaa
