/-
  THE VALUE OF AN EXPRESSION: the reference's Holds.
-/
import Derived.Test.YtofkihmckookjaaR10
namespace Go.Proofs.Ytofkihmckookjaa
open Go Go.Am

mutual
def holdB (v : List Bool) : Ex → Bool
  | .nd op ix args => if op = 0 then ix == 1 else if op = 1 then v.getD ix.toNat false else if op = 2 then !(holdL v args).headD false else if op = 3 then (holdL v args).all id else (holdL v args).any id
def holdL (v : List Bool) : List Ex → List Bool
  | [] => []
  | y :: ys => holdB v y :: holdL v ys
end

theorem holdL_eq (v : List Bool) : ∀ l : List Ex, holdL v l = l.map (holdB v)
  | [] => by simp [holdL]
  | y :: ys => by simp [holdL, holdL_eq v ys]

def vsB (v : List Bool) : AV := .vs (v.map fun b => [.bool b])

theorem nds_args {n op ix : Int} {args : List Ex} (h : nds n (.nd op ix args) = 0) : nodeV op ix args.length n = 0 ∧ ∀ y ∈ args, nds n y = 0 := by
  rw [nds] at h
  split at h
  · rename_i h1
    refine ⟨h1, ?_⟩
    clear h1
    induction args with
    | nil => exact fun _ hy => absurd hy List.not_mem_nil
    | cons y ys ih =>
      rw [ndsL] at h
      split at h
      · rename_i h2
        intro z hz
        rcases List.mem_cons.1 hz with rfl | hm
        · exact h2
        · exact ih h z hm
      · rename_i h2; exact absurd h h2
  · rename_i h1; exact absurd h h1

theorem nodeV_ok {op ix k n : Int} (h : nodeV op ix k n = 0) : 0 ≤ op ∧ op < 5 ∧ leastA op ≤ k ∧ k ≤ mostA op ∧ 0 ≤ ix ∧ ix ≤ mostI op n := by
  unfold nodeV at h
  split at h
  · exact absurd h (by decide)
  · split at h
    · exact absurd h (by decide)
    · split at h
      · exact absurd h (by decide)
      · omega

theorem vs_get (v : List Bool) (i : Nat) (h : i < v.length) : (v.map fun b => ([.bool b] : List AV))[i]? = some [.bool (v.getD i false)] := by
  rw [List.getElem?_map, List.getElem?_eq_getElem h, List.getD_eq_getElem?_getD, List.getElem?_eq_getElem h]
  rfl

def body84 : IC := .seq (.seq (.region [⟨(some 32), .mov (.t 7), none⟩,
    ⟨(some 33), .faddr 2 (.t 2), none⟩,
    ⟨(some 34), .load none (.t 33), none⟩,
    ⟨(some 35), .len false (.t 34), none⟩,
    ⟨(some 36), .bin .lss (.t 32) (.t 35), none⟩] none)
  (.cond (.t 36) (.skip)
  (.exit 1)))
  (.seq (.block 2 (.seq (.region [⟨(some 39), .faddr 2 (.t 2), none⟩,
    ⟨(some 40), .load none (.t 39), none⟩,
    ⟨(some 41), .mov (.t 7), none⟩,
    ⟨(some 42), .idxs 3 (.t 40) (.t 41), none⟩,
    ⟨(some 43), .load (some 3) (.t 42), none⟩,
    ⟨(some 44), .mov (.t 1), none⟩,
    ⟨(some 45), .call (.c (.fn 84 [] [])) [(.t 43), (.t 44)], none⟩,
    ⟨(some 8), .mov (.t 45), none⟩] none)
  (.region [⟨(some 46), .mov (.t 5), none⟩,
    ⟨(some 47), .mov (.t 46), none⟩,
    ⟨(some 48), .mov (.t 8), some (47, true)⟩,
    ⟨(some 49), .pick (.t 47) (.t 48) (.c (.bool false)), none⟩,
    ⟨(some 50), .mov (.t 6), none⟩,
    ⟨(some 51), .mov (.t 50), none⟩,
    ⟨(some 52), .mov (.t 8), some (51, false)⟩,
    ⟨(some 53), .pick (.t 51) (.c (.bool true)) (.t 52), none⟩,
    ⟨(some 5), .mov (.t 49), none⟩,
    ⟨(some 6), .mov (.t 53), none⟩] none)))
  (.region [⟨(some 37), .mov (.t 7), none⟩,
    ⟨(some 38), .bin .add (.t 37) (.c (.int .i64 1)), none⟩,
    ⟨(some 7), .mov (.t 38), none⟩] none))

-- pneumatic/pneumaticref05.Holds
def ic84 : IC := .seq (.region [⟨(some 2), .box (.t 0), none⟩,
    ⟨(some 4), .mov (.c (.bool false)), none⟩] none)
  (.seq (.seq (.region [⟨(some 9), .faddr 0 (.t 2), none⟩,
    ⟨(some 10), .load none (.t 9), none⟩] none)
  (.block 0 (.seq (.region [⟨(some 12), .bin .eql (.t 10) (.c (.int .i64 0)), none⟩,
    ⟨(some 11), .mov (.t 12), none⟩] none)
  (.cond (.t 11) (.seq (.region [⟨(some 13), .faddr 1 (.t 2), none⟩,
    ⟨(some 14), .load none (.t 13), none⟩,
    ⟨(some 15), .bin .eql (.t 14) (.c (.int .i64 1)), none⟩,
    ⟨(some 4), .mov (.t 15), none⟩] none)
  (.ret))
  (.seq (.region [⟨(some 17), .bin .eql (.t 10) (.c (.int .i64 1)), none⟩,
    ⟨(some 16), .mov (.t 17), none⟩] none)
  (.cond (.t 16) (.seq (.region [⟨(some 18), .mov (.t 1), none⟩,
    ⟨(some 19), .faddr 1 (.t 2), none⟩,
    ⟨(some 20), .load none (.t 19), none⟩,
    ⟨(some 21), .idxs 1 (.t 18) (.t 20), none⟩,
    ⟨(some 22), .load none (.t 21), none⟩,
    ⟨(some 4), .mov (.t 22), none⟩] none)
  (.ret))
  (.seq (.region [⟨(some 24), .bin .eql (.t 10) (.c (.int .i64 2)), none⟩,
    ⟨(some 23), .mov (.t 24), none⟩] none)
  (.cond (.t 23) (.seq (.region [⟨(some 25), .faddr 2 (.t 2), none⟩,
    ⟨(some 26), .load none (.t 25), none⟩,
    ⟨(some 27), .idxs 3 (.t 26) (.c (.int .i64 0)), none⟩,
    ⟨(some 28), .load (some 3) (.t 27), none⟩,
    ⟨(some 29), .mov (.t 1), none⟩,
    ⟨(some 30), .call (.c (.fn 84 [] [])) [(.t 28), (.t 29)], none⟩,
    ⟨(some 31), .un .not (.t 30), none⟩,
    ⟨(some 4), .mov (.t 31), none⟩] none)
  (.ret))
  (.skip)))))))))
  (.seq (.region [⟨(some 5), .mov (.c (.bool true)), none⟩,
    ⟨(some 6), .mov (.c (.bool false)), none⟩] none)
  (.seq (.seq (.region [⟨(some 7), .mov (.c (.int .i64 0)), none⟩] none)
  (.block 1 (.loop body84)))
  (.seq (.region [⟨(some 54), .faddr 0 (.t 2), none⟩,
    ⟨(some 55), .load none (.t 54), none⟩,
    ⟨(some 56), .bin .eql (.t 55) (.c (.int .i64 3)), none⟩,
    ⟨(some 57), .mov (.t 56), none⟩,
    ⟨(some 58), .mov (.t 5), some (57, true)⟩,
    ⟨(some 59), .pick (.t 57) (.t 58) (.c (.bool false)), none⟩,
    ⟨(some 60), .mov (.t 59), none⟩,
    ⟨(some 61), .faddr 0 (.t 2), some (60, false)⟩,
    ⟨(some 62), .load none (.t 61), some (60, false)⟩,
    ⟨(some 63), .bin .eql (.t 62) (.c (.int .i64 4)), some (60, false)⟩,
    ⟨(some 64), .mov (.t 63), some (60, false)⟩,
    ⟨(some 65), .mov (.t 6), some (64, true)⟩,
    ⟨(some 66), .pick (.t 64) (.t 65) (.c (.bool false)), some (60, false)⟩,
    ⟨(some 67), .pick (.t 60) (.c (.bool true)) (.t 66), none⟩,
    ⟨(some 4), .mov (.t 67), none⟩] none)
  (.ret)))))
theorem fn84 : env0.fn 84 = some ⟨68, ic84, [.t 4]⟩ := by kernel_rfl


set_option maxHeartbeats 4000000 in
theorem holds84 (v : List Bool) : ∀ (q : Nat) (x : Ex), SizeOf.sizeOf x ≤ q → nds v.length x = 0 → PF Try.prog 84 [.agg (cX x), vsB v] (.bool (holdB v x)) := by
  intro q
  induction q with
  | zero => intro x hq; cases x; simp at hq
  | succ q ih =>
  intro x hq hs
  obtain ⟨op, ix, args⟩ := x
  obtain ⟨hn, hch⟩ := nds_args hs
  obtain ⟨o0, o5, kl, km, i0, im⟩ := nodeV_ok hn
  have hlen : args.length ≤ 256 := by
    unfold mostA at km
    (repeat' split at km) <;> omega
  have hop : op = 0 ∨ op = 1 ∨ op = 2 ∨ op = 3 ∨ op = 4 := by omega
  have hd : holdB v (.nd op ix args) = if op = 0 then ix == 1 else if op = 1 then v.getD ix.toNat false else if op = 2 then !(holdL v args).headD false else if op = 3 then (holdL v args).all id else (holdL v args).any id := by rw [holdB]
  rw [hd]
  refine PF_of_Z env0_ok fn84 [(0, .agg (cX (.nd op ix args))), (1, vsB v)] (by show 2 ≤ 68; decide) rfl fun w0 N0 => ?_
  unfold ic84
  rcases hop with rfl | rfl | rfl | rfl | rfl
  · rw [if_pos rfl]
    repeat (first | refine z_seq ?_ | refine z_region rfl ?_ | refine o_nil ?_ | refine u_seq ?_ | refine z_block ?_ | refine z_ct rfl ?_ | refine o_mov rfl ?_ | refine o_load rfl rfl ?_ | refine o_faddrm rfl ?_ | refine o_box rfl rfl ?_ | refine o_cmpt rfl rfl rfl ?_)
    refine o_cmp rfl rfl rfl (fun h1 => ?_) fun h1 => ?_
    · rw [h1]
      repeat (first | refine o_nil ?_ | refine u_seq ?_ | refine z_ret ?_ | refine u_ret_seq ?_ | refine u_ret_blk ?_ | refine o_mov rfl ?_)
      exact u_end ⟨.inr rfl, _, rfl, rfl⟩
    · rw [h1]
      repeat (first | refine o_nil ?_ | refine u_seq ?_ | refine z_ret ?_ | refine u_ret_seq ?_ | refine u_ret_blk ?_ | refine o_mov rfl ?_)
      exact u_end ⟨.inr rfl, _, rfl, rfl⟩
  · rw [if_neg (by decide), if_pos rfl]
    repeat (first | refine z_seq ?_ | refine z_region rfl ?_ | refine o_nil ?_ | refine u_seq ?_ | refine z_block ?_ | refine z_ct rfl ?_ | refine z_cf rfl ?_ | refine o_mov rfl ?_ | refine o_load rfl rfl ?_ | refine o_faddrm rfl ?_ | refine o_box rfl rfl ?_ | refine o_cmpt rfl rfl rfl ?_ | refine o_cmpf rfl rfl rfl ?_)
    have hi : ix.toNat < v.length := by
      simp [mostI] at im
      omega
    refine o_idxs rfl rfl i0 (vs_get v _ hi) rfl ?_
    repeat (first | refine o_nil ?_ | refine u_seq ?_ | refine z_ret ?_ | refine u_ret_seq ?_ | refine u_ret_blk ?_ | refine o_mov rfl ?_ | refine o_load rfl rfl ?_)
    exact u_end ⟨.inr rfl, _, rfl, rfl⟩
  · rw [if_neg (by decide), if_neg (by decide), if_pos rfl]
    have h1 : args.length = 1 := by simp [leastA, mostA] at kl km; omega
    obtain ⟨y, rfl⟩ := List.length_eq_one_iff.1 h1
    obtain ⟨yo, yi, ya⟩ := y
    have hhd : (holdL v [.nd yo yi ya]).headD false = holdB v (.nd yo yi ya) := by rw [holdL]; rfl
    rw [hhd]
    repeat (first | refine z_seq ?_ | refine z_region rfl ?_ | refine o_nil ?_ | refine u_seq ?_ | refine z_block ?_ | refine z_ct rfl ?_ | refine z_cf rfl ?_ | refine o_mov rfl ?_ | refine o_load rfl rfl ?_ | refine o_faddrm rfl ?_ | refine o_box rfl rfl ?_ | refine o_cmpt rfl rfl rfl ?_ | refine o_cmpf rfl rfl rfl ?_)
    refine o_idxs rfl rfl (Int.le_refl 0) (cXs_get (l := [.nd yo yi ya]) (i := 0) (Nat.zero_lt_one)) rfl ?_
    repeat (first | refine o_mov rfl ?_ | refine o_loadn rfl rfl rfl rfl ?_)
    refine o_call rfl rfl (ih (.nd yo yi ya) (by have := sz_mem (op := 2) (ix := ix) (List.mem_singleton_self (Ex.nd yo yi ya)); omega) (hch _ (List.mem_singleton_self _))) (fun h => Bool.noConfusion (show false = true from h)) ?_
    repeat (first | refine o_nil ?_ | refine u_seq ?_ | refine z_ret ?_ | refine u_ret_seq ?_ | refine u_ret_blk ?_ | refine o_mov rfl ?_ | refine o_un rfl rfl ?_)
    exact u_end ⟨.inr rfl, _, rfl, rfl⟩
  · rw [if_neg (by decide), if_neg (by decide), if_neg (by decide), if_pos rfl, holdL_eq]
    repeat (first | refine z_seq ?_ | refine z_region rfl ?_ | refine o_nil ?_ | refine u_seq ?_ | refine u_blk ?_ | refine z_block ?_ | refine z_skip ?_ | refine z_cf rfl ?_ | refine o_mov rfl ?_ | refine o_load rfl rfl ?_ | refine o_faddrm rfl ?_ | refine o_box rfl rfl ?_ | refine o_cmpf rfl rfl rfl ?_)
    refine z_loop (fun mm S => ∃ i a s, mm = args.length - i ∧ i ≤ args.length ∧ (a && ((args.drop i).map (holdB v)).all id) = (args.map (holdB v)).all id ∧ (s || ((args.drop i).map (holdB v)).any id) = (args.map (holdB v)).any id ∧
        S = st 68 [(1, vsB v), (2, .mptr 0 0 0), (5, .bool a), (6, .bool s), (7, .int .i64 (i : Nat))] [(0, 0, .cells (cX (.nd 3 ix args)))] 1 1) args.length
      (sub_keep (.cons rfl (.cons rfl (.cons rfl (.cons rfl (.cons rfl .nil)))))) ⟨0, true, false, rfl, Nat.zero_le _, by rw [Bool.true_and]; rfl, by rw [Bool.false_or]; rfl, rfl⟩ ?_
    rintro mm S ⟨i, a, s, rfl, hi, hal, han, rfl⟩
    unfold body84
    repeat (first | refine z_seq ?_ | refine z_region rfl ?_ | refine o_mov rfl ?_ | refine o_load rfl rfl ?_ | refine o_faddrm rfl ?_ | refine o_len rfl rfl ?_)
    refine o_cmp rfl rfl rfl (fun h3 => ?_) fun h3 => ?_
    · have hlt : i < args.length := by
        have := of_decide_eq_true h3
        rw [cXs_length] at this
        omega
      have hdr : args.drop i = args[i] :: args.drop (i + 1) := List.drop_eq_getElem_cons hlt
      rw [hdr, List.map_cons] at hal han
      rw [List.all_cons] at hal
      rw [List.any_cons] at han
      have hge := cXs_get hlt
      have hmem : args[i] ∈ args := List.getElem_mem hlt
      generalize args[i] = y at hal han hge hmem
      obtain ⟨yo, yi, ya⟩ := y
      repeat (first | refine z_seq ?_ | refine z_region rfl ?_ | refine o_nil ?_ | refine u_seq ?_ | refine z_block ?_ | refine z_skip ?_ | refine z_ct rfl ?_ | refine o_mov rfl ?_ | refine o_load rfl rfl ?_ | refine o_faddrm rfl ?_)
      refine o_idxs rfl rfl (Int.natCast_nonneg i) hge rfl ?_
      repeat (first | refine o_mov rfl ?_ | refine o_loadn rfl rfl rfl rfl ?_)
      refine o_call rfl rfl (ih (.nd yo yi ya) (by have := sz_mem (op := 3) (ix := ix) hmem; omega) (hch _ hmem)) (fun h => Bool.noConfusion (show false = true from h)) ?_
      generalize holdB v (.nd yo yi ya) = r at hal han
      cases a <;> cases s
      all_goals
        repeat (first | refine z_region rfl ?_ | refine o_nil ?_ | refine u_seq ?_ | refine u_blk ?_ | refine o_gy rfl ?_ | refine o_gn rfl rfl ?_ | refine o_mov rfl ?_ | refine o_pickt rfl rfl ?_ | refine o_pickf rfl rfl ?_ | refine o_bin (op := .add) rfl rfl rfl ?_)
        rw [wrap_succ i (by omega)]
        exact u_round (show args.length - (i + 1) < args.length - i by omega) (sub_keep (.cons rfl (.cons rfl (.cons rfl (.cons rfl (.cons rfl .nil)))))) ⟨i + 1, _, _, rfl, hlt, by simpa using hal, by simpa using han, rfl⟩
    · have hi2 : i = args.length := by
        have := of_decide_eq_false h3
        rw [cXs_length] at this
        omega
      subst hi2
      rw [List.drop_length] at hal han
      have hal : a = (args.map (holdB v)).all id := by simpa using hal
      have han : s = (args.map (holdB v)).any id := by simpa using han
      rw [← hal]
      clear hal han
      repeat (first | refine o_nil ?_ | refine u_seq ?_ | refine z_cf rfl ?_ | refine z_exit ?_ | refine u_exit_seq ?_)
      refine u_out ?_
      repeat (first | refine z_seq ?_ | refine z_region rfl ?_ | refine u_seq ?_ | refine u_exit ?_ | refine o_gy rfl ?_ | refine o_mov rfl ?_ | refine o_load rfl rfl ?_ | refine o_faddrm rfl ?_ | refine o_pickt rfl rfl ?_ | refine o_cmpt rfl rfl rfl ?_)
      cases a <;> cases s
      all_goals
        repeat (first | refine o_nil ?_ | refine u_seq ?_ | refine z_ret ?_ | refine o_gy rfl ?_ | refine o_gn rfl rfl ?_ | refine o_gt rfl ?_ | refine o_mov rfl ?_ | refine o_load rfl rfl ?_ | refine o_faddrm rfl ?_ | refine o_pickt rfl rfl ?_ | refine o_pickf rfl rfl ?_ | refine o_cmpf rfl rfl rfl ?_)
        exact u_end ⟨.inr rfl, _, rfl, rfl⟩
  · rw [if_neg (by decide), if_neg (by decide), if_neg (by decide), if_neg (by decide), holdL_eq]
    repeat (first | refine z_seq ?_ | refine z_region rfl ?_ | refine o_nil ?_ | refine u_seq ?_ | refine u_blk ?_ | refine z_block ?_ | refine z_skip ?_ | refine z_cf rfl ?_ | refine o_mov rfl ?_ | refine o_load rfl rfl ?_ | refine o_faddrm rfl ?_ | refine o_box rfl rfl ?_ | refine o_cmpf rfl rfl rfl ?_)
    refine z_loop (fun mm S => ∃ i a s, mm = args.length - i ∧ i ≤ args.length ∧ (a && ((args.drop i).map (holdB v)).all id) = (args.map (holdB v)).all id ∧ (s || ((args.drop i).map (holdB v)).any id) = (args.map (holdB v)).any id ∧
        S = st 68 [(1, vsB v), (2, .mptr 0 0 0), (5, .bool a), (6, .bool s), (7, .int .i64 (i : Nat))] [(0, 0, .cells (cX (.nd 4 ix args)))] 1 1) args.length
      (sub_keep (.cons rfl (.cons rfl (.cons rfl (.cons rfl (.cons rfl .nil)))))) ⟨0, true, false, rfl, Nat.zero_le _, by rw [Bool.true_and]; rfl, by rw [Bool.false_or]; rfl, rfl⟩ ?_
    rintro mm S ⟨i, a, s, rfl, hi, hal, han, rfl⟩
    unfold body84
    repeat (first | refine z_seq ?_ | refine z_region rfl ?_ | refine o_mov rfl ?_ | refine o_load rfl rfl ?_ | refine o_faddrm rfl ?_ | refine o_len rfl rfl ?_)
    refine o_cmp rfl rfl rfl (fun h3 => ?_) fun h3 => ?_
    · have hlt : i < args.length := by
        have := of_decide_eq_true h3
        rw [cXs_length] at this
        omega
      have hdr : args.drop i = args[i] :: args.drop (i + 1) := List.drop_eq_getElem_cons hlt
      rw [hdr, List.map_cons] at hal han
      rw [List.all_cons] at hal
      rw [List.any_cons] at han
      have hge := cXs_get hlt
      have hmem : args[i] ∈ args := List.getElem_mem hlt
      generalize args[i] = y at hal han hge hmem
      obtain ⟨yo, yi, ya⟩ := y
      repeat (first | refine z_seq ?_ | refine z_region rfl ?_ | refine o_nil ?_ | refine u_seq ?_ | refine z_block ?_ | refine z_skip ?_ | refine z_ct rfl ?_ | refine o_mov rfl ?_ | refine o_load rfl rfl ?_ | refine o_faddrm rfl ?_)
      refine o_idxs rfl rfl (Int.natCast_nonneg i) hge rfl ?_
      repeat (first | refine o_mov rfl ?_ | refine o_loadn rfl rfl rfl rfl ?_)
      refine o_call rfl rfl (ih (.nd yo yi ya) (by have := sz_mem (op := 4) (ix := ix) hmem; omega) (hch _ hmem)) (fun h => Bool.noConfusion (show false = true from h)) ?_
      generalize holdB v (.nd yo yi ya) = r at hal han
      cases a <;> cases s
      all_goals
        repeat (first | refine z_region rfl ?_ | refine o_nil ?_ | refine u_seq ?_ | refine u_blk ?_ | refine o_gy rfl ?_ | refine o_gn rfl rfl ?_ | refine o_mov rfl ?_ | refine o_pickt rfl rfl ?_ | refine o_pickf rfl rfl ?_ | refine o_bin (op := .add) rfl rfl rfl ?_)
        rw [wrap_succ i (by omega)]
        exact u_round (show args.length - (i + 1) < args.length - i by omega) (sub_keep (.cons rfl (.cons rfl (.cons rfl (.cons rfl (.cons rfl .nil)))))) ⟨i + 1, _, _, rfl, hlt, by simpa using hal, by simpa using han, rfl⟩
    · have hi2 : i = args.length := by
        have := of_decide_eq_false h3
        rw [cXs_length] at this
        omega
      subst hi2
      rw [List.drop_length] at hal han
      have hal : a = (args.map (holdB v)).all id := by simpa using hal
      have han : s = (args.map (holdB v)).any id := by simpa using han
      rw [← han]
      clear hal han
      repeat (first | refine o_nil ?_ | refine u_seq ?_ | refine z_cf rfl ?_ | refine z_exit ?_ | refine u_exit_seq ?_)
      refine u_out ?_
      repeat (first | refine z_seq ?_ | refine z_region rfl ?_ | refine o_nil ?_ | refine u_seq ?_ | refine z_ret ?_ | refine u_exit ?_ | refine o_gy rfl ?_ | refine o_gn rfl rfl ?_ | refine o_mov rfl ?_ | refine o_load rfl rfl ?_ | refine o_faddrm rfl ?_ | refine o_pickt rfl rfl ?_ | refine o_pickf rfl rfl ?_ | refine o_cmpt rfl rfl rfl ?_ | refine o_cmpf rfl rfl rfl ?_)
      cases a <;> cases s
      all_goals
        exact u_end ⟨.inr rfl, _, rfl, rfl⟩

end Go.Proofs.Ytofkihmckookjaa
