/-
  THE VALUE OF AN EXPRESSION: boolexp.eval and Eval answer as the reference's Holds.
-/
import Derived.Test.YtofkihmckookjaaR12
namespace Go.Proofs.Ytofkihmckookjaa
open Go Go.Am

-- pneumatic/boolexp.eval
def ic100 : IC := .seq (.region [⟨(some 2), .box (.t 0), none⟩,
    ⟨(some 3), .box (.t 1), none⟩,
    ⟨(some 4), .mov (.c (.bool false)), none⟩] none)
  (.seq (.seq (.region [⟨(some 5), .faddr 0 (.t 2), none⟩,
    ⟨(some 6), .load none (.t 5), none⟩] none)
  (.block 0 (.seq (.region [⟨(some 8), .bin .eql (.t 6) (.c (.int .i64 0)), none⟩,
    ⟨(some 7), .mov (.t 8), none⟩] none)
  (.cond (.t 7) (.seq (.region [⟨(some 9), .faddr 1 (.t 2), none⟩,
    ⟨(some 10), .load none (.t 9), none⟩,
    ⟨(some 11), .bin .eql (.t 10) (.c (.int .i64 1)), none⟩,
    ⟨(some 4), .mov (.t 11), none⟩] none)
  (.ret))
  (.seq (.region [⟨(some 13), .bin .eql (.t 6) (.c (.int .i64 1)), none⟩,
    ⟨(some 12), .mov (.t 13), none⟩] none)
  (.cond (.t 12) (.seq (.region [⟨(some 14), .load none (.t 3), none⟩,
    ⟨(some 15), .faddr 1 (.t 2), none⟩,
    ⟨(some 16), .load none (.t 15), none⟩,
    ⟨(some 17), .idxs 1 (.t 14) (.t 16), none⟩,
    ⟨(some 18), .load none (.t 17), none⟩,
    ⟨(some 4), .mov (.t 18), none⟩] none)
  (.ret))
  (.skip)))))))
  (.seq (.region [⟨(some 19), .call (.c (.fn 103 [] [])) [], none⟩,
    ⟨(some 20), .faddr 0 (.t 2), none⟩,
    ⟨(some 21), .load none (.t 20), none⟩,
    ⟨(some 22), .idxagg 5 3 true (.t 19) (.t 21), none⟩,
    ⟨(some 23), .field 2 none (.t 22), none⟩,
    ⟨(some 24), .mkfn 110 [] [(.t 2), (.t 3)], none⟩,
    ⟨(some 25), .call (.t 23) [(.t 24)], none⟩,
    ⟨(some 4), .mov (.t 25), none⟩] (some [[], [], [1], [0, 2], [3], [], [4, 5, 0], [6, 6, 0, 1, 2, 3, 4, 5, 6]]))
  (.ret)))
theorem fn100 : env0.fn 100 = some ⟨26, ic100, [.t 4]⟩ := by kernel_rfl


theorem all_false1 (a : Bool) : ([a].all (· == false)) = !a := by cases a <;> rfl
theorem all_true (l : List Bool) : l.all (· == true) = l.all id := by
  induction l with
  | nil => rfl
  | cons a l ih => rw [List.all_cons, List.all_cons, ih]; cases a <;> rfl
theorem any_false (l : List Bool) : (!l.all (· == false)) = l.any id := by
  induction l with
  | nil => rfl
  | cons a l ih => rw [List.all_cons, List.any_cons, ← ih]; cases a <;> simp

set_option maxHeartbeats 4000000 in
theorem eval100 (v : List Bool) : ∀ (q : Nat) (x : Ex), SizeOf.sizeOf x ≤ q → nds v.length x = 0 → PF Try.prog 100 [.agg (cX x), vsB v] (.bool (holdB v x)) := by
  intro q
  induction q with
  | zero => intro x hq; cases x; simp at hq
  | succ q ih =>
  intro x hq hs
  obtain ⟨op, ix, args⟩ := x
  obtain ⟨hn, hch⟩ := nds_args hs
  obtain ⟨o0, o5, kl, km, i0, im⟩ := nodeV_ok hn
  have hlen : args.length ≤ 256 := by
    unfold mostA at km
    (repeat' split at km) <;> omega
  have hev : ∀ y ∈ args, PF Try.prog 100 [.agg (cX y), vsB v] (.bool (holdB v y)) := fun y hy => ih y (by have := sz_mem (op := op) (ix := ix) hy; omega) (hch y hy)
  have hop : op = 0 ∨ op = 1 ∨ op = 2 ∨ op = 3 ∨ op = 4 := by omega
  have hd : holdB v (.nd op ix args) = if op = 0 then ix == 1 else if op = 1 then v.getD ix.toNat false else if op = 2 then !(holdL v args).headD false else if op = 3 then (holdL v args).all id else (holdL v args).any id := by rw [holdB]
  rw [hd]
  refine PF_of_Z env0_ok fn100 [(0, .agg (cX (.nd op ix args))), (1, vsB v)] (by show 2 ≤ 26; decide) rfl fun w0 N0 => ?_
  unfold ic100
  rcases hop with rfl | rfl | rfl | rfl | rfl
  · rw [if_pos rfl]
    repeat (first | refine z_seq ?_ | refine z_region rfl ?_ | refine o_nil ?_ | refine u_seq ?_ | refine z_block ?_ | refine z_ct rfl ?_ | refine o_mov rfl ?_ | refine o_load rfl rfl ?_ | refine o_faddrm rfl ?_ | refine o_box rfl rfl ?_ | refine o_cmpt rfl rfl rfl ?_)
    refine o_cmp rfl rfl rfl (fun h1 => ?_) fun h1 => ?_
    · rw [h1]
      repeat (first | refine o_nil ?_ | refine u_seq ?_ | refine z_ret ?_ | refine u_ret_seq ?_ | refine u_ret_blk ?_ | refine o_mov rfl ?_)
      exact u_end ⟨.inr rfl, _, rfl, rfl⟩
    · rw [h1]
      repeat (first | refine o_nil ?_ | refine u_seq ?_ | refine z_ret ?_ | refine u_ret_seq ?_ | refine u_ret_blk ?_ | refine o_mov rfl ?_)
      exact u_end ⟨.inr rfl, _, rfl, rfl⟩
  · rw [if_neg (by decide), if_pos rfl]
    repeat (first | refine z_seq ?_ | refine z_region rfl ?_ | refine o_nil ?_ | refine u_seq ?_ | refine z_block ?_ | refine z_ct rfl ?_ | refine z_cf rfl ?_ | refine o_mov rfl ?_ | refine o_load rfl rfl ?_ | refine o_faddrm rfl ?_ | refine o_box rfl rfl ?_ | refine o_cmpt rfl rfl rfl ?_ | refine o_cmpf rfl rfl rfl ?_)
    have hi : ix.toNat < v.length := by
      simp [mostI] at im
      omega
    refine o_idxs rfl rfl i0 (vs_get v _ hi) rfl ?_
    repeat (first | refine o_nil ?_ | refine u_seq ?_ | refine z_ret ?_ | refine u_ret_seq ?_ | refine u_ret_blk ?_ | refine o_mov rfl ?_ | refine o_load rfl rfl ?_)
    exact u_end ⟨.inr rfl, _, rfl, rfl⟩
  · rw [if_neg (by decide), if_neg (by decide), if_pos rfl]
    have h1 : args.length = 1 := by simp [leastA, mostA] at kl km; omega
    have heq : (args.map (holdB v)).all (· == false) = !(holdL v args).headD false := by
      obtain ⟨y, rfl⟩ := List.length_eq_one_iff.1 h1
      rw [holdL, holdL, List.map_cons, List.map_nil, all_false1]
      rfl
    repeat (first | refine z_seq ?_ | refine z_region rfl ?_ | refine o_nil ?_ | refine u_seq ?_ | refine u_blk ?_ | refine z_block ?_ | refine z_skip ?_ | refine z_cf rfl ?_ | refine o_mov rfl ?_ | refine o_load rfl rfl ?_ | refine o_faddrm rfl ?_ | refine o_box rfl rfl ?_ | refine o_cmpf rfl rfl rfl ?_)
    refine z_drawn env0_ok [(103, [], shapesV), (115, [.fn 110 [] [.vptr (cX (.nd 2 ix args)), .vptr [vsB v]], .vptr [.bool false]], .bool ((args.map (holdB v)).all (· == false)))] (fun x hx => by rcases List.mem_cons.1 hx with rfl | hx; exact shapes103; obtain rfl := List.mem_singleton.1 hx; exact every115 false v 2 ix args hlen hev) (fun f => Nat.beq f 103) rfl rfl rfl ?_
    refine o_call rfl rfl lookL_here (fun h => Bool.noConfusion (show false = true from h)) ?_
    unfold shapesV
    repeat (first | refine o_load rfl rfl ?_ | refine o_faddrm rfl ?_ | refine o_field rfl rfl ?_ | refine o_idxaggn rfl rfl rfl rfl ?_ | refine o_mkfn rfl rfl ?_)
    refine o_callv rfl rfl rfl (lookL_next (by decide) lookL_here) (fun _ => rfl) ?_
    repeat (first | refine o_nil ?_ | refine u_seq ?_ | refine z_ret ?_ | refine o_mov rfl ?_)
    refine u_end ⟨.inr rfl, _, rfl, ?_⟩
    show AV.bool _ = AV.bool _
    exact congrArg AV.bool heq
  · rw [if_neg (by decide), if_neg (by decide), if_neg (by decide), if_pos rfl, holdL_eq]
    have heq : (args.map (holdB v)).all (· == true) = (args.map (holdB v)).all id := all_true _
    repeat (first | refine z_seq ?_ | refine z_region rfl ?_ | refine o_nil ?_ | refine u_seq ?_ | refine u_blk ?_ | refine z_block ?_ | refine z_skip ?_ | refine z_cf rfl ?_ | refine o_mov rfl ?_ | refine o_load rfl rfl ?_ | refine o_faddrm rfl ?_ | refine o_box rfl rfl ?_ | refine o_cmpf rfl rfl rfl ?_)
    refine z_drawn env0_ok [(103, [], shapesV), (115, [.fn 110 [] [.vptr (cX (.nd 3 ix args)), .vptr [vsB v]], .vptr [.bool true]], .bool ((args.map (holdB v)).all (· == true)))] (fun x hx => by rcases List.mem_cons.1 hx with rfl | hx; exact shapes103; obtain rfl := List.mem_singleton.1 hx; exact every115 true v 3 ix args hlen hev) (fun f => Nat.beq f 103) rfl rfl rfl ?_
    refine o_call rfl rfl lookL_here (fun h => Bool.noConfusion (show false = true from h)) ?_
    unfold shapesV
    repeat (first | refine o_load rfl rfl ?_ | refine o_faddrm rfl ?_ | refine o_field rfl rfl ?_ | refine o_idxaggn rfl rfl rfl rfl ?_ | refine o_mkfn rfl rfl ?_)
    refine o_callv rfl rfl rfl (lookL_next (by decide) lookL_here) (fun _ => rfl) ?_
    repeat (first | refine o_nil ?_ | refine u_seq ?_ | refine z_ret ?_ | refine o_mov rfl ?_)
    refine u_end ⟨.inr rfl, _, rfl, ?_⟩
    show AV.bool _ = AV.bool _
    exact congrArg AV.bool heq
  · rw [if_neg (by decide), if_neg (by decide), if_neg (by decide), if_neg (by decide), holdL_eq]
    have heq : (!(args.map (holdB v)).all (· == false)) = (args.map (holdB v)).any id := any_false _
    repeat (first | refine z_seq ?_ | refine z_region rfl ?_ | refine o_nil ?_ | refine u_seq ?_ | refine u_blk ?_ | refine z_block ?_ | refine z_skip ?_ | refine z_cf rfl ?_ | refine o_mov rfl ?_ | refine o_load rfl rfl ?_ | refine o_faddrm rfl ?_ | refine o_box rfl rfl ?_ | refine o_cmpf rfl rfl rfl ?_)
    refine z_drawn env0_ok [(103, [], shapesV), (112, [.fn 110 [] [.vptr (cX (.nd 4 ix args)), .vptr [vsB v]]], .bool (!(args.map (holdB v)).all (· == false)))] (fun x hx => by rcases List.mem_cons.1 hx with rfl | hx; exact shapes103; obtain rfl := List.mem_singleton.1 hx; exact some112 v 4 ix args hlen hev) (fun f => Nat.beq f 103) rfl rfl rfl ?_
    refine o_call rfl rfl lookL_here (fun h => Bool.noConfusion (show false = true from h)) ?_
    unfold shapesV
    repeat (first | refine o_load rfl rfl ?_ | refine o_faddrm rfl ?_ | refine o_field rfl rfl ?_ | refine o_idxaggn rfl rfl rfl rfl ?_ | refine o_mkfn rfl rfl ?_)
    refine o_callv rfl rfl rfl (lookL_next (by decide) lookL_here) (fun _ => rfl) ?_
    repeat (first | refine o_nil ?_ | refine u_seq ?_ | refine z_ret ?_ | refine o_mov rfl ?_)
    refine u_end ⟨.inr rfl, _, rfl, ?_⟩
    show AV.bool _ = AV.bool _
    exact congrArg AV.bool heq

-- pneumatic/boolexp.Eval
def ic81 : IC := .seq (.region [⟨(some 2), .box (.t 0), none⟩,
    ⟨(some 4), .mov (.c (.bool false)), none⟩,
    ⟨(some 5), .mov (.c (.int .i64 0)), none⟩] none)
  (.seq (.seq (.region [⟨(some 7), .load (some 3) (.t 2), none⟩,
    ⟨(some 8), .mov (.t 1), none⟩,
    ⟨(some 9), .len false (.t 8), none⟩,
    ⟨(some 10), .call (.c (.fn 59 [] [])) [(.t 7), (.t 9)], none⟩,
    ⟨(some 6), .mov (.t 10), none⟩] none)
  (.seq (.region [⟨(some 11), .mov (.t 6), none⟩,
    ⟨(some 12), .bin .neq (.t 11) (.c (.int .i64 0)), none⟩] none)
  (.cond (.t 12) (.seq (.region [⟨(some 13), .mov (.t 6), none⟩,
    ⟨(some 4), .mov (.c (.bool false)), none⟩,
    ⟨(some 5), .mov (.t 13), none⟩] none)
  (.ret))
  (.skip))))
  (.seq (.region [⟨(some 14), .load (some 3) (.t 2), none⟩,
    ⟨(some 15), .mov (.t 1), none⟩,
    ⟨(some 16), .call (.c (.fn 100 [] [])) [(.t 14), (.t 15)], none⟩,
    ⟨(some 4), .mov (.t 16), none⟩,
    ⟨(some 5), .mov (.c (.int .i64 0)), none⟩] none)
  (.ret)))
theorem fn81 : env0.fn 81 = some ⟨17, ic81, [.t 4, .t 5]⟩ := by kernel_rfl


def evalV (x : Ex) (v : List Bool) : AV := if checkR x v.length = 0 then .tup [.bool (holdB v x), .int .i64 0] else .tup [.bool false, .int .i64 (checkR x v.length)]

theorem nds_of {x : Ex} {n : Int} (h : checkR x n = 0) : nds n x = 0 := by
  unfold checkR at h
  split at h
  · exact absurd h (by decide)
  · split at h
    · exact h
    · exact absurd h (by decide)

theorem eval81 (x : Ex) (hs : Slim x) (v : List Bool) : PF Try.prog 81 [.agg (cX x), vsB v] (evalV x v) := by
  have h59 := check59 x hs v.length
  rw [check_eq] at h59
  have h100 : checkR x v.length = 0 → PF Try.prog 100 [.agg (cX x), vsB v] (.bool (holdB v x)) := fun h => eval100 v _ x (Nat.le_refl _) (nds_of h)
  have hl : ((v.map fun b => ([.bool b] : List AV)).length : Int) = v.length := by rw [List.length_map]
  obtain ⟨op, ix, args⟩ := x
  refine PF_of_Z env0_ok fn81 [(0, .agg (cX (.nd op ix args))), (1, vsB v)] (by show 2 ≤ 17; decide) rfl fun w0 N0 => ?_
  unfold ic81 evalV
  repeat (first | refine z_seq ?_ | refine z_region rfl ?_ | refine o_nil ?_ | refine u_seq ?_ | refine o_mov rfl ?_ | refine o_loadn rfl rfl rfl rfl ?_ | refine o_len rfl rfl ?_ | refine o_box rfl rfl ?_)
  refine o_call rfl (by rw [show (((fun n => AV.int .i64 n) (v.map fun b => ([.bool b] : List AV)).length) : AV) = .int .i64 v.length from congrArg _ hl]; rfl) h59 (fun h => Bool.noConfusion (show false = true from h)) ?_
  repeat (first | refine z_seq ?_ | refine z_region rfl ?_ | refine o_nil ?_ | refine u_seq ?_ | refine o_mov rfl ?_)
  refine o_cmp rfl rfl rfl (fun h1 => ?_) fun h1 => ?_
  · have h1 := bne_iff_ne.1 h1
    rw [if_neg h1]
    repeat (first | refine z_seq ?_ | refine z_region rfl ?_ | refine o_nil ?_ | refine u_seq ?_ | refine z_ct rfl ?_ | refine z_ret ?_ | refine u_ret_seq ?_ | refine o_mov rfl ?_)
    exact u_end ⟨.inr rfl, _, rfl, rfl⟩
  · have h1 : checkR (.nd op ix args) v.length = 0 := by simpa using h1
    rw [if_pos h1]
    repeat (first | refine z_seq ?_ | refine z_region rfl ?_ | refine o_nil ?_ | refine u_seq ?_ | refine z_skip ?_ | refine z_cf rfl ?_ | refine o_mov rfl ?_ | refine o_loadn rfl rfl rfl rfl ?_)
    refine o_call rfl rfl (h100 h1) (fun h => Bool.noConfusion (show false = true from h)) ?_
    repeat (first | refine o_nil ?_ | refine u_seq ?_ | refine z_ret ?_ | refine o_mov rfl ?_)
    exact u_end ⟨.inr rfl, _, rfl, rfl⟩

end Go.Proofs.Ytofkihmckookjaa
