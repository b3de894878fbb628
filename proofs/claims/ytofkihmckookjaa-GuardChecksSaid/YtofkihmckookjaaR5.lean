/-
  A NODE ALONE: boolexp.node for every expression.
-/
import Derived.Test.YtofkihmckookjaaR4
namespace Go.Proofs.Ytofkihmckookjaa
open Go Go.Am

def shapesV : AV := .agg [.int .i64 0, .int .i64 0, .nilf, .int .i64 0, .int .i64 0, .nilf, .int .i64 1, .int .i64 1, .fn 115 [] [.vptr [.bool false]], .int .i64 2, .int .i64 256, .fn 115 [] [.vptr [.bool true]], .int .i64 2, .int .i64 256, .fn 112 [] []]

def tabS : Tab := [
  (103, [
    ([], .agg [.int .i64 0, .int .i64 0, .nilf, .int .i64 0, .int .i64 0, .nilf, .int .i64 1, .int .i64 1, .fn 115 [] [.vptr [.bool false]], .int .i64 2, .int .i64 256, .fn 115 [] [.vptr [.bool true]], .int .i64 2, .int .i64 256, .fn 112 [] []])])]

theorem tabS_ok : TabOk Try.prog tabS := TabOk.of_run (env0_ok.tab TabOk.nil (pure := [])) (n := 60) (by kernel_rfl)

theorem shapes103 : PF Try.prog 103 [] shapesV := tabS_ok _ (List.mem_cons_self ..) _ (List.mem_cons_self ..)

theorem wrap_less1 (n : Int) (hn : 0 ≤ n ∧ n ≤ 256) : IntKind.i64.wrap (n - 1) = n - 1 := by
  by_cases h : n = 0
  · subst h; decide
  · exact wrap_small _ (by omega) (by omega)

/-- How few and how many arguments an operation has, and the greatest index. -/
def leastA (op : Int) : Int := if op = 2 then 1 else if op = 3 ∨ op = 4 then 2 else 0
def mostA (op : Int) : Int := if op = 2 then 1 else if op = 3 ∨ op = 4 then 256 else 0
def mostI (op n : Int) : Int := if op = 0 then 1 else if op = 1 then n - 1 else 0

def nodeV (op ix k n : Int) : Int :=
  if op < 0 ∨ op ≥ 5 then 1 else if k < leastA op ∨ k > mostA op then 3 else if ix < 0 ∨ ix > mostI op n then 2 else 0

-- pneumatic/boolexp.node
def ic88 : IC := .seq (.region [⟨(some 2), .box (.t 0), none⟩,
    ⟨(some 4), .mov (.c (.int .i64 0)), none⟩] none)
  (.seq (.seq (.region [⟨(some 7), .faddr 0 (.t 2), none⟩,
    ⟨(some 8), .load none (.t 7), none⟩,
    ⟨(some 9), .bin .lss (.t 8) (.c (.int .i64 0)), none⟩,
    ⟨(some 10), .mov (.t 9), none⟩,
    ⟨(some 11), .faddr 0 (.t 2), some (10, false)⟩,
    ⟨(some 12), .load none (.t 11), some (10, false)⟩,
    ⟨(some 13), .bin .geq (.t 12) (.c (.int .i64 5)), some (10, false)⟩,
    ⟨(some 14), .pick (.t 10) (.c (.bool true)) (.t 13), none⟩] none)
  (.cond (.t 14) (.seq (.region [⟨(some 4), .mov (.c (.int .i64 1)), none⟩] none)
  (.ret))
  (.skip)))
  (.seq (.region [⟨(some 15), .call (.c (.fn 103 [] [])) [], none⟩,
    ⟨(some 16), .faddr 0 (.t 2), none⟩,
    ⟨(some 17), .load none (.t 16), none⟩,
    ⟨(some 18), .idxagg 5 3 true (.t 15) (.t 17), none⟩,
    ⟨(some 5), .alloc [.int .i64 0, .int .i64 0, .nilf], none⟩,
    ⟨none, .store 3 (.t 5) (.t 18), none⟩] (some [[], [], [1], [0, 2], [], [4, 3, 0, 0, 1, 2, 3, 4]]))
  (.seq (.seq (.region [⟨(some 19), .faddr 2 (.t 2), none⟩,
    ⟨(some 20), .load none (.t 19), none⟩,
    ⟨(some 21), .len false (.t 20), none⟩,
    ⟨(some 22), .faddr 0 (.t 5), none⟩,
    ⟨(some 23), .load none (.t 22), none⟩,
    ⟨(some 24), .bin .lss (.t 21) (.t 23), none⟩,
    ⟨(some 25), .mov (.t 24), none⟩,
    ⟨(some 26), .faddr 2 (.t 2), some (25, false)⟩,
    ⟨(some 27), .load none (.t 26), some (25, false)⟩,
    ⟨(some 28), .len false (.t 27), some (25, false)⟩,
    ⟨(some 29), .faddr 1 (.t 5), some (25, false)⟩,
    ⟨(some 30), .load none (.t 29), some (25, false)⟩,
    ⟨(some 31), .bin .gtr (.t 28) (.t 30), some (25, false)⟩,
    ⟨(some 32), .pick (.t 25) (.c (.bool true)) (.t 31), none⟩] none)
  (.cond (.t 32) (.seq (.region [⟨(some 4), .mov (.c (.int .i64 3)), none⟩] none)
  (.ret))
  (.skip)))
  (.seq (.region [⟨(some 6), .mov (.c (.int .i64 0)), none⟩] none)
  (.seq (.seq (.region [⟨(some 33), .faddr 0 (.t 2), none⟩,
    ⟨(some 34), .load none (.t 33), none⟩] none)
  (.block 0 (.seq (.region [⟨(some 36), .bin .eql (.t 34) (.c (.int .i64 0)), none⟩,
    ⟨(some 35), .mov (.t 36), none⟩] none)
  (.cond (.t 35) (.region [⟨(some 6), .mov (.c (.int .i64 1)), none⟩] none)
  (.seq (.region [⟨(some 38), .bin .eql (.t 34) (.c (.int .i64 1)), none⟩,
    ⟨(some 37), .mov (.t 38), none⟩] none)
  (.cond (.t 37) (.region [⟨(some 39), .mov (.t 1), none⟩,
    ⟨(some 40), .bin .sub (.t 39) (.c (.int .i64 1)), none⟩,
    ⟨(some 6), .mov (.t 40), none⟩] none)
  (.skip)))))))
  (.seq (.seq (.region [⟨(some 41), .faddr 1 (.t 2), none⟩,
    ⟨(some 42), .load none (.t 41), none⟩,
    ⟨(some 43), .bin .lss (.t 42) (.c (.int .i64 0)), none⟩,
    ⟨(some 44), .mov (.t 43), none⟩,
    ⟨(some 45), .faddr 1 (.t 2), some (44, false)⟩,
    ⟨(some 46), .load none (.t 45), some (44, false)⟩,
    ⟨(some 47), .mov (.t 6), some (44, false)⟩,
    ⟨(some 48), .bin .gtr (.t 46) (.t 47), some (44, false)⟩,
    ⟨(some 49), .pick (.t 44) (.c (.bool true)) (.t 48), none⟩] none)
  (.cond (.t 49) (.seq (.region [⟨(some 4), .mov (.c (.int .i64 2)), none⟩] none)
  (.ret))
  (.skip)))
  (.seq (.region [⟨(some 4), .mov (.c (.int .i64 0)), none⟩] none)
  (.ret))))))))
theorem fn88 : env0.fn 88 = some ⟨50, ic88, [.t 4]⟩ := by kernel_rfl


set_option maxHeartbeats 4000000 in
theorem node88 (op ix n : Int) (args : List Ex) (hn : 0 ≤ n ∧ n ≤ 256) : PF Try.prog 88 [.agg (cX (.nd op ix args)), .int .i64 n] (.int .i64 (nodeV op ix args.length n)) := by
  refine PF_of_Z env0_ok fn88 [(0, .agg (cX (.nd op ix args))), (1, .int .i64 n)] (by show 2 ≤ 50; decide) rfl fun w0 N0 => ?_
  unfold ic88
  repeat (first | refine z_seq ?_ | refine z_region rfl ?_ | refine o_nil ?_ | refine u_seq ?_ | refine o_mov rfl ?_ | refine o_load rfl rfl ?_ | refine o_faddrm rfl ?_ | refine o_box rfl rfl ?_)
  refine o_cmp rfl rfl rfl (fun h1 => ?_) fun h1 => ?_
  · have h1 := of_decide_eq_true h1
    repeat (first | refine z_seq ?_ | refine z_region rfl ?_ | refine o_nil ?_ | refine u_seq ?_ | refine z_ct rfl ?_ | refine z_ret ?_ | refine u_ret_seq ?_ | refine o_gn rfl rfl ?_ | refine o_mov rfl ?_ | refine o_pickt rfl rfl ?_)
    refine u_end ⟨.inr rfl, _, rfl, ?_⟩
    unfold nodeV
    rw [if_pos (.inl h1)]
    rfl
  have h1 := of_decide_eq_false h1
  repeat (first | refine o_gy rfl ?_ | refine o_mov rfl ?_ | refine o_load rfl rfl ?_ | refine o_faddrm rfl ?_)
  refine o_cmp rfl rfl rfl (fun h2 => ?_) fun h2 => ?_
  · have h2 := of_decide_eq_true h2
    repeat (first | refine z_seq ?_ | refine z_region rfl ?_ | refine o_nil ?_ | refine u_seq ?_ | refine z_ct rfl ?_ | refine z_ret ?_ | refine u_ret_seq ?_ | refine o_mov rfl ?_ | refine o_pickf rfl rfl ?_)
    refine u_end ⟨.inr rfl, _, rfl, ?_⟩
    unfold nodeV
    rw [if_pos (.inr h2)]
    rfl
  have h2 := of_decide_eq_false h2
  repeat (first | refine z_seq ?_ | refine o_nil ?_ | refine u_seq ?_ | refine z_skip ?_ | refine z_cf rfl ?_ | refine o_pickf rfl rfl ?_)
  refine z_drawn env0_ok [(103, [], shapesV)] (fun x hx => by obtain rfl := List.mem_singleton.1 hx; exact shapes103) (fun f => Nat.beq f 103) rfl rfl rfl ?_
  refine o_call rfl rfl lookL_here (fun h => Bool.noConfusion (show false = true from h)) ?_
  have hlen : ((cXs args).length : Int) = (args.length : Int) := by rw [cXs_length]
  have hop : op = 0 ∨ op = 1 ∨ op = 2 ∨ op = 3 ∨ op = 4 := by omega
  unfold shapesV
  rcases hop with rfl | rfl | rfl | rfl | rfl
  · repeat (first | refine z_seq ?_ | refine z_region rfl ?_ | refine o_nil ?_ | refine u_seq ?_ | refine o_gy rfl ?_ | refine o_mov rfl ?_ | refine o_load rfl rfl ?_ | refine o_store rfl rfl rfl rfl rfl rfl rfl ?_ | refine o_faddrm rfl ?_ | refine o_alloc ?_ | refine o_len rfl rfl ?_ | refine o_idxaggn rfl rfl rfl rfl ?_ | refine o_cmpf rfl rfl rfl ?_)
    refine o_cmp rfl rfl rfl (fun h3 => ?_) fun h3 => ?_
    · have h3 := of_decide_eq_true h3
      repeat (first | refine z_seq ?_ | refine z_region rfl ?_ | refine o_nil ?_ | refine u_seq ?_ | refine z_ct rfl ?_ | refine z_ret ?_ | refine u_ret_seq ?_ | refine o_mov rfl ?_ | refine o_pickf rfl rfl ?_)
      refine u_end ⟨.inr rfl, _, rfl, ?_⟩
      show AV.int .i64 3 = AV.int .i64 _
      exact congrArg _ (by simp (decide := true) only [nodeV, leastA, mostA, mostI, if_true, if_false]; (repeat' split) <;> omega)
    have h30 := of_decide_eq_false h3
    clear h3
    repeat (first | refine z_seq ?_ | refine z_region rfl ?_ | refine o_nil ?_ | refine u_seq ?_ | refine u_blk ?_ | refine z_block ?_ | refine z_skip ?_ | refine z_ct rfl ?_ | refine z_cf rfl ?_ | refine o_mov rfl ?_ | refine o_load rfl rfl ?_ | refine o_faddrm rfl ?_ | refine o_pickf rfl rfl ?_ | refine o_cmpt rfl rfl rfl ?_)
    refine o_cmp rfl rfl rfl (fun h4 => ?_) fun h4 => ?_
    · have h4 := of_decide_eq_true h4
      repeat (first | refine z_seq ?_ | refine z_region rfl ?_ | refine o_nil ?_ | refine u_seq ?_ | refine z_ct rfl ?_ | refine z_ret ?_ | refine u_ret_seq ?_ | refine o_gn rfl rfl ?_ | refine o_mov rfl ?_ | refine o_pickt rfl rfl ?_)
      refine u_end ⟨.inr rfl, _, rfl, ?_⟩
      show AV.int .i64 2 = AV.int .i64 _
      exact congrArg _ (by simp (decide := true) only [nodeV, leastA, mostA, mostI, if_true, if_false]; (repeat' split) <;> omega)
    have h4a := of_decide_eq_false h4
    clear h4
    repeat (first | refine o_gy rfl ?_ | refine o_mov rfl ?_ | refine o_load rfl rfl ?_ | refine o_faddrm rfl ?_)
    refine o_cmp rfl rfl rfl (fun h4 => ?_) fun h4 => ?_
    · have h4 := of_decide_eq_true h4
      repeat (first | refine z_seq ?_ | refine z_region rfl ?_ | refine o_nil ?_ | refine u_seq ?_ | refine z_ct rfl ?_ | refine z_ret ?_ | refine u_ret_seq ?_ | refine o_mov rfl ?_ | refine o_pickf rfl rfl ?_)
      refine u_end ⟨.inr rfl, _, rfl, ?_⟩
      show AV.int .i64 2 = AV.int .i64 _
      exact congrArg _ (by simp (decide := true) only [nodeV, leastA, mostA, mostI, if_true, if_false]; (repeat' split) <;> omega)
    have h4b := of_decide_eq_false h4
    repeat (first | refine z_seq ?_ | refine z_region rfl ?_ | refine o_nil ?_ | refine u_seq ?_ | refine z_skip ?_ | refine z_cf rfl ?_ | refine z_ret ?_ | refine o_mov rfl ?_ | refine o_pickf rfl rfl ?_)
    refine u_end ⟨.inr rfl, _, rfl, ?_⟩
    show AV.int .i64 0 = AV.int .i64 _
    exact congrArg _ (by simp (decide := true) only [nodeV, leastA, mostA, mostI, if_true, if_false]; (repeat' split) <;> omega)
  · repeat (first | refine z_seq ?_ | refine z_region rfl ?_ | refine o_nil ?_ | refine u_seq ?_ | refine o_gy rfl ?_ | refine o_mov rfl ?_ | refine o_load rfl rfl ?_ | refine o_store rfl rfl rfl rfl rfl rfl rfl ?_ | refine o_faddrm rfl ?_ | refine o_alloc ?_ | refine o_len rfl rfl ?_ | refine o_idxaggn rfl rfl rfl rfl ?_ | refine o_cmpf rfl rfl rfl ?_)
    refine o_cmp rfl rfl rfl (fun h3 => ?_) fun h3 => ?_
    · have h3 := of_decide_eq_true h3
      repeat (first | refine z_seq ?_ | refine z_region rfl ?_ | refine o_nil ?_ | refine u_seq ?_ | refine z_ct rfl ?_ | refine z_ret ?_ | refine u_ret_seq ?_ | refine o_mov rfl ?_ | refine o_pickf rfl rfl ?_)
      refine u_end ⟨.inr rfl, _, rfl, ?_⟩
      show AV.int .i64 3 = AV.int .i64 _
      exact congrArg _ (by simp (decide := true) only [nodeV, leastA, mostA, mostI, if_true, if_false]; (repeat' split) <;> omega)
    have h30 := of_decide_eq_false h3
    clear h3
    repeat (first | refine z_seq ?_ | refine z_region rfl ?_ | refine o_nil ?_ | refine u_seq ?_ | refine u_blk ?_ | refine z_block ?_ | refine z_skip ?_ | refine z_ct rfl ?_ | refine z_cf rfl ?_ | refine o_mov rfl ?_ | refine o_load rfl rfl ?_ | refine o_faddrm rfl ?_ | refine o_pickf rfl rfl ?_ | refine o_bin (op := .sub) rfl rfl rfl ?_ | refine o_cmpt rfl rfl rfl ?_ | refine o_cmpf rfl rfl rfl ?_)
    refine o_cmp rfl rfl rfl (fun h4 => ?_) fun h4 => ?_
    · have h4 := of_decide_eq_true h4
      repeat (first | refine z_seq ?_ | refine z_region rfl ?_ | refine o_nil ?_ | refine u_seq ?_ | refine z_ct rfl ?_ | refine z_ret ?_ | refine u_ret_seq ?_ | refine o_gn rfl rfl ?_ | refine o_mov rfl ?_ | refine o_pickt rfl rfl ?_)
      refine u_end ⟨.inr rfl, _, rfl, ?_⟩
      show AV.int .i64 2 = AV.int .i64 _
      exact congrArg _ (by simp (decide := true) only [nodeV, leastA, mostA, mostI, if_true, if_false]; (repeat' split) <;> omega)
    have h4a := of_decide_eq_false h4
    clear h4
    repeat (first | refine o_gy rfl ?_ | refine o_mov rfl ?_ | refine o_load rfl rfl ?_ | refine o_faddrm rfl ?_)
    refine o_cmp rfl rfl rfl (fun h4 => ?_) fun h4 => ?_
    · have h4 := of_decide_eq_true h4
      rw [wrap_less1 n hn] at h4
      repeat (first | refine z_seq ?_ | refine z_region rfl ?_ | refine o_nil ?_ | refine u_seq ?_ | refine z_ct rfl ?_ | refine z_ret ?_ | refine u_ret_seq ?_ | refine o_mov rfl ?_ | refine o_pickf rfl rfl ?_)
      refine u_end ⟨.inr rfl, _, rfl, ?_⟩
      show AV.int .i64 2 = AV.int .i64 _
      exact congrArg _ (by simp (decide := true) only [nodeV, leastA, mostA, mostI, if_true, if_false]; (repeat' split) <;> omega)
    have h4b := of_decide_eq_false h4
    rw [wrap_less1 n hn] at h4b
    repeat (first | refine z_seq ?_ | refine z_region rfl ?_ | refine o_nil ?_ | refine u_seq ?_ | refine z_skip ?_ | refine z_cf rfl ?_ | refine z_ret ?_ | refine o_mov rfl ?_ | refine o_pickf rfl rfl ?_)
    refine u_end ⟨.inr rfl, _, rfl, ?_⟩
    show AV.int .i64 0 = AV.int .i64 _
    exact congrArg _ (by simp (decide := true) only [nodeV, leastA, mostA, mostI, if_true, if_false]; (repeat' split) <;> omega)
  · repeat (first | refine z_seq ?_ | refine z_region rfl ?_ | refine o_nil ?_ | refine u_seq ?_ | refine o_load rfl rfl ?_ | refine o_store rfl rfl rfl rfl rfl rfl rfl ?_ | refine o_faddrm rfl ?_ | refine o_alloc ?_ | refine o_len rfl rfl ?_ | refine o_idxaggn rfl rfl rfl rfl ?_)
    refine o_cmp rfl rfl rfl (fun h3 => ?_) fun h3 => ?_
    · have h3 := of_decide_eq_true h3
      repeat (first | refine z_seq ?_ | refine z_region rfl ?_ | refine o_nil ?_ | refine u_seq ?_ | refine z_ct rfl ?_ | refine z_ret ?_ | refine u_ret_seq ?_ | refine o_gn rfl rfl ?_ | refine o_mov rfl ?_ | refine o_pickt rfl rfl ?_)
      refine u_end ⟨.inr rfl, _, rfl, ?_⟩
      show AV.int .i64 3 = AV.int .i64 _
      exact congrArg _ (by simp (decide := true) only [nodeV, leastA, mostA, mostI, if_true, if_false]; (repeat' split) <;> omega)
    have h30 := of_decide_eq_false h3
    clear h3
    repeat (first | refine o_gy rfl ?_ | refine o_mov rfl ?_ | refine o_load rfl rfl ?_ | refine o_faddrm rfl ?_ | refine o_len rfl rfl ?_)
    refine o_cmp rfl rfl rfl (fun h3 => ?_) fun h3 => ?_
    · have h3 := of_decide_eq_true h3
      repeat (first | refine z_seq ?_ | refine z_region rfl ?_ | refine o_nil ?_ | refine u_seq ?_ | refine z_ct rfl ?_ | refine z_ret ?_ | refine u_ret_seq ?_ | refine o_mov rfl ?_ | refine o_pickf rfl rfl ?_)
      refine u_end ⟨.inr rfl, _, rfl, ?_⟩
      show AV.int .i64 3 = AV.int .i64 _
      exact congrArg _ (by simp (decide := true) only [nodeV, leastA, mostA, mostI, if_true, if_false]; (repeat' split) <;> omega)
    have h31 := of_decide_eq_false h3
    clear h3
    repeat (first | refine z_seq ?_ | refine z_region rfl ?_ | refine o_nil ?_ | refine u_seq ?_ | refine u_blk ?_ | refine z_block ?_ | refine z_skip ?_ | refine z_cf rfl ?_ | refine o_mov rfl ?_ | refine o_load rfl rfl ?_ | refine o_faddrm rfl ?_ | refine o_pickf rfl rfl ?_ | refine o_cmpf rfl rfl rfl ?_)
    refine o_cmp rfl rfl rfl (fun h4 => ?_) fun h4 => ?_
    · have h4 := of_decide_eq_true h4
      repeat (first | refine z_seq ?_ | refine z_region rfl ?_ | refine o_nil ?_ | refine u_seq ?_ | refine z_ct rfl ?_ | refine z_ret ?_ | refine u_ret_seq ?_ | refine o_gn rfl rfl ?_ | refine o_mov rfl ?_ | refine o_pickt rfl rfl ?_)
      refine u_end ⟨.inr rfl, _, rfl, ?_⟩
      show AV.int .i64 2 = AV.int .i64 _
      exact congrArg _ (by simp (decide := true) only [nodeV, leastA, mostA, mostI, if_true, if_false]; (repeat' split) <;> omega)
    have h4a := of_decide_eq_false h4
    clear h4
    repeat (first | refine o_gy rfl ?_ | refine o_mov rfl ?_ | refine o_load rfl rfl ?_ | refine o_faddrm rfl ?_)
    refine o_cmp rfl rfl rfl (fun h4 => ?_) fun h4 => ?_
    · have h4 := of_decide_eq_true h4
      repeat (first | refine z_seq ?_ | refine z_region rfl ?_ | refine o_nil ?_ | refine u_seq ?_ | refine z_ct rfl ?_ | refine z_ret ?_ | refine u_ret_seq ?_ | refine o_mov rfl ?_ | refine o_pickf rfl rfl ?_)
      refine u_end ⟨.inr rfl, _, rfl, ?_⟩
      show AV.int .i64 2 = AV.int .i64 _
      exact congrArg _ (by simp (decide := true) only [nodeV, leastA, mostA, mostI, if_true, if_false]; (repeat' split) <;> omega)
    have h4b := of_decide_eq_false h4
    repeat (first | refine z_seq ?_ | refine z_region rfl ?_ | refine o_nil ?_ | refine u_seq ?_ | refine z_skip ?_ | refine z_cf rfl ?_ | refine z_ret ?_ | refine o_mov rfl ?_ | refine o_pickf rfl rfl ?_)
    refine u_end ⟨.inr rfl, _, rfl, ?_⟩
    show AV.int .i64 0 = AV.int .i64 _
    exact congrArg _ (by simp (decide := true) only [nodeV, leastA, mostA, mostI, if_true, if_false]; (repeat' split) <;> omega)
  · repeat (first | refine z_seq ?_ | refine z_region rfl ?_ | refine o_nil ?_ | refine u_seq ?_ | refine o_load rfl rfl ?_ | refine o_store rfl rfl rfl rfl rfl rfl rfl ?_ | refine o_faddrm rfl ?_ | refine o_alloc ?_ | refine o_len rfl rfl ?_ | refine o_idxaggn rfl rfl rfl rfl ?_)
    refine o_cmp rfl rfl rfl (fun h3 => ?_) fun h3 => ?_
    · have h3 := of_decide_eq_true h3
      repeat (first | refine z_seq ?_ | refine z_region rfl ?_ | refine o_nil ?_ | refine u_seq ?_ | refine z_ct rfl ?_ | refine z_ret ?_ | refine u_ret_seq ?_ | refine o_gn rfl rfl ?_ | refine o_mov rfl ?_ | refine o_pickt rfl rfl ?_)
      refine u_end ⟨.inr rfl, _, rfl, ?_⟩
      show AV.int .i64 3 = AV.int .i64 _
      exact congrArg _ (by simp (decide := true) only [nodeV, leastA, mostA, mostI, if_true, if_false]; (repeat' split) <;> omega)
    have h30 := of_decide_eq_false h3
    clear h3
    repeat (first | refine o_gy rfl ?_ | refine o_mov rfl ?_ | refine o_load rfl rfl ?_ | refine o_faddrm rfl ?_ | refine o_len rfl rfl ?_)
    refine o_cmp rfl rfl rfl (fun h3 => ?_) fun h3 => ?_
    · have h3 := of_decide_eq_true h3
      repeat (first | refine z_seq ?_ | refine z_region rfl ?_ | refine o_nil ?_ | refine u_seq ?_ | refine z_ct rfl ?_ | refine z_ret ?_ | refine u_ret_seq ?_ | refine o_mov rfl ?_ | refine o_pickf rfl rfl ?_)
      refine u_end ⟨.inr rfl, _, rfl, ?_⟩
      show AV.int .i64 3 = AV.int .i64 _
      exact congrArg _ (by simp (decide := true) only [nodeV, leastA, mostA, mostI, if_true, if_false]; (repeat' split) <;> omega)
    have h31 := of_decide_eq_false h3
    clear h3
    repeat (first | refine z_seq ?_ | refine z_region rfl ?_ | refine o_nil ?_ | refine u_seq ?_ | refine u_blk ?_ | refine z_block ?_ | refine z_skip ?_ | refine z_cf rfl ?_ | refine o_mov rfl ?_ | refine o_load rfl rfl ?_ | refine o_faddrm rfl ?_ | refine o_pickf rfl rfl ?_ | refine o_cmpf rfl rfl rfl ?_)
    refine o_cmp rfl rfl rfl (fun h4 => ?_) fun h4 => ?_
    · have h4 := of_decide_eq_true h4
      repeat (first | refine z_seq ?_ | refine z_region rfl ?_ | refine o_nil ?_ | refine u_seq ?_ | refine z_ct rfl ?_ | refine z_ret ?_ | refine u_ret_seq ?_ | refine o_gn rfl rfl ?_ | refine o_mov rfl ?_ | refine o_pickt rfl rfl ?_)
      refine u_end ⟨.inr rfl, _, rfl, ?_⟩
      show AV.int .i64 2 = AV.int .i64 _
      exact congrArg _ (by simp (decide := true) only [nodeV, leastA, mostA, mostI, if_true, if_false]; (repeat' split) <;> omega)
    have h4a := of_decide_eq_false h4
    clear h4
    repeat (first | refine o_gy rfl ?_ | refine o_mov rfl ?_ | refine o_load rfl rfl ?_ | refine o_faddrm rfl ?_)
    refine o_cmp rfl rfl rfl (fun h4 => ?_) fun h4 => ?_
    · have h4 := of_decide_eq_true h4
      repeat (first | refine z_seq ?_ | refine z_region rfl ?_ | refine o_nil ?_ | refine u_seq ?_ | refine z_ct rfl ?_ | refine z_ret ?_ | refine u_ret_seq ?_ | refine o_mov rfl ?_ | refine o_pickf rfl rfl ?_)
      refine u_end ⟨.inr rfl, _, rfl, ?_⟩
      show AV.int .i64 2 = AV.int .i64 _
      exact congrArg _ (by simp (decide := true) only [nodeV, leastA, mostA, mostI, if_true, if_false]; (repeat' split) <;> omega)
    have h4b := of_decide_eq_false h4
    repeat (first | refine z_seq ?_ | refine z_region rfl ?_ | refine o_nil ?_ | refine u_seq ?_ | refine z_skip ?_ | refine z_cf rfl ?_ | refine z_ret ?_ | refine o_mov rfl ?_ | refine o_pickf rfl rfl ?_)
    refine u_end ⟨.inr rfl, _, rfl, ?_⟩
    show AV.int .i64 0 = AV.int .i64 _
    exact congrArg _ (by simp (decide := true) only [nodeV, leastA, mostA, mostI, if_true, if_false]; (repeat' split) <;> omega)
  · repeat (first | refine z_seq ?_ | refine z_region rfl ?_ | refine o_nil ?_ | refine u_seq ?_ | refine o_load rfl rfl ?_ | refine o_store rfl rfl rfl rfl rfl rfl rfl ?_ | refine o_faddrm rfl ?_ | refine o_alloc ?_ | refine o_len rfl rfl ?_ | refine o_idxaggn rfl rfl rfl rfl ?_)
    refine o_cmp rfl rfl rfl (fun h3 => ?_) fun h3 => ?_
    · have h3 := of_decide_eq_true h3
      repeat (first | refine z_seq ?_ | refine z_region rfl ?_ | refine o_nil ?_ | refine u_seq ?_ | refine z_ct rfl ?_ | refine z_ret ?_ | refine u_ret_seq ?_ | refine o_gn rfl rfl ?_ | refine o_mov rfl ?_ | refine o_pickt rfl rfl ?_)
      refine u_end ⟨.inr rfl, _, rfl, ?_⟩
      show AV.int .i64 3 = AV.int .i64 _
      exact congrArg _ (by simp (decide := true) only [nodeV, leastA, mostA, mostI, if_true, if_false]; (repeat' split) <;> omega)
    have h30 := of_decide_eq_false h3
    clear h3
    repeat (first | refine o_gy rfl ?_ | refine o_mov rfl ?_ | refine o_load rfl rfl ?_ | refine o_faddrm rfl ?_ | refine o_len rfl rfl ?_)
    refine o_cmp rfl rfl rfl (fun h3 => ?_) fun h3 => ?_
    · have h3 := of_decide_eq_true h3
      repeat (first | refine z_seq ?_ | refine z_region rfl ?_ | refine o_nil ?_ | refine u_seq ?_ | refine z_ct rfl ?_ | refine z_ret ?_ | refine u_ret_seq ?_ | refine o_mov rfl ?_ | refine o_pickf rfl rfl ?_)
      refine u_end ⟨.inr rfl, _, rfl, ?_⟩
      show AV.int .i64 3 = AV.int .i64 _
      exact congrArg _ (by simp (decide := true) only [nodeV, leastA, mostA, mostI, if_true, if_false]; (repeat' split) <;> omega)
    have h31 := of_decide_eq_false h3
    clear h3
    repeat (first | refine z_seq ?_ | refine z_region rfl ?_ | refine o_nil ?_ | refine u_seq ?_ | refine u_blk ?_ | refine z_block ?_ | refine z_skip ?_ | refine z_cf rfl ?_ | refine o_mov rfl ?_ | refine o_load rfl rfl ?_ | refine o_faddrm rfl ?_ | refine o_pickf rfl rfl ?_ | refine o_cmpf rfl rfl rfl ?_)
    refine o_cmp rfl rfl rfl (fun h4 => ?_) fun h4 => ?_
    · have h4 := of_decide_eq_true h4
      repeat (first | refine z_seq ?_ | refine z_region rfl ?_ | refine o_nil ?_ | refine u_seq ?_ | refine z_ct rfl ?_ | refine z_ret ?_ | refine u_ret_seq ?_ | refine o_gn rfl rfl ?_ | refine o_mov rfl ?_ | refine o_pickt rfl rfl ?_)
      refine u_end ⟨.inr rfl, _, rfl, ?_⟩
      show AV.int .i64 2 = AV.int .i64 _
      exact congrArg _ (by simp (decide := true) only [nodeV, leastA, mostA, mostI, if_true, if_false]; (repeat' split) <;> omega)
    have h4a := of_decide_eq_false h4
    clear h4
    repeat (first | refine o_gy rfl ?_ | refine o_mov rfl ?_ | refine o_load rfl rfl ?_ | refine o_faddrm rfl ?_)
    refine o_cmp rfl rfl rfl (fun h4 => ?_) fun h4 => ?_
    · have h4 := of_decide_eq_true h4
      repeat (first | refine z_seq ?_ | refine z_region rfl ?_ | refine o_nil ?_ | refine u_seq ?_ | refine z_ct rfl ?_ | refine z_ret ?_ | refine u_ret_seq ?_ | refine o_mov rfl ?_ | refine o_pickf rfl rfl ?_)
      refine u_end ⟨.inr rfl, _, rfl, ?_⟩
      show AV.int .i64 2 = AV.int .i64 _
      exact congrArg _ (by simp (decide := true) only [nodeV, leastA, mostA, mostI, if_true, if_false]; (repeat' split) <;> omega)
    have h4b := of_decide_eq_false h4
    repeat (first | refine z_seq ?_ | refine z_region rfl ?_ | refine o_nil ?_ | refine u_seq ?_ | refine z_skip ?_ | refine z_cf rfl ?_ | refine z_ret ?_ | refine o_mov rfl ?_ | refine o_pickf rfl rfl ?_)
    refine u_end ⟨.inr rfl, _, rfl, ?_⟩
    show AV.int .i64 0 = AV.int .i64 _
    exact congrArg _ (by simp (decide := true) only [nodeV, leastA, mostA, mostI, if_true, if_false]; (repeat' split) <;> omega)

end Go.Proofs.Ytofkihmckookjaa
