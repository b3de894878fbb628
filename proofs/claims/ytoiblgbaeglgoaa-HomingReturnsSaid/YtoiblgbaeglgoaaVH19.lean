/-
  STROKES AND THE OPPOSITE ONES: the law.
-/
import Derived.Test.YtoiblgbaeglgoaaVH18
namespace Go.Proofs.Ytoiblgbaeglgoaa
open Go Go.Am

def b8_0 : IC := .seq (.region [⟨(some 34), .bin .lss (.t 33) (.t 32), none⟩] none)
  (.seq (.cond (.t 34) (.skip)
  (.exit 0))
  (.seq (.block 1 (.seq (.region [⟨(some 35), .mov (.t 33), none⟩,
    ⟨(some 8), .mov (.t 35), none⟩] none)
  (.seq (.region [⟨(some 36), .mov (.t 8), none⟩,
    ⟨(some 37), .mov (.t 1), none⟩,
    ⟨(some 38), .mov (.t 8), none⟩,
    ⟨(some 39), .idxs 1 (.t 37) (.t 38), none⟩,
    ⟨(some 40), .load none (.t 39), none⟩,
    ⟨(some 41), .un .not (.t 40), none⟩,
    ⟨(some 42), .build [.int .i64 0, .bool false] [(0, 1, (.t 36)), (1, 1, (.t 41))], none⟩,
    ⟨(some 9), .alloc [.int .i64 0, .bool false], none⟩,
    ⟨none, .store 2 (.t 9) (.t 42), none⟩] none)
  (.seq (.region [⟨(some 43), .mov (.t 1), none⟩,
    ⟨(some 44), .call (.c (.fn 44 [] [])) [(.t 43)], none⟩,
    ⟨(some 10), .mov (.t 44), none⟩] none)
  (.seq (.region [⟨(some 45), .mov (.t 10), none⟩,
    ⟨(some 46), .mov (.t 8), none⟩,
    ⟨(some 47), .faddr 1 (.t 9), none⟩,
    ⟨(some 48), .load none (.t 47), none⟩,
    ⟨(some 49), .idxs 1 (.t 45) (.t 46), none⟩,
    ⟨none, .store 1 (.t 49) (.t 48), none⟩] none)
  (.seq (.region [⟨(some 51), .load (some 1) (.t 2), none⟩,
    ⟨(some 52), .mov (.t 10), none⟩,
    ⟨(some 53), .call (.c (.fn 43 [] [])) [(.t 51), (.t 52)], none⟩,
    ⟨(some 50), .mov (.t 53), none⟩,
    ⟨(some 54), .extract (.t 50) 0, none⟩,
    ⟨(some 55), .extract (.t 50) 1, none⟩,
    ⟨(some 11), .mov (.t 54), none⟩,
    ⟨(some 12), .mov (.t 55), none⟩] none)
  (.seq (.region [⟨(some 56), .mov (.t 12), none⟩,
    ⟨(some 57), .bin .neq (.t 56) (.c (.int .i64 0)), none⟩,
    ⟨(some 58), .mov (.t 57), none⟩,
    ⟨(some 59), .mov (.t 6), some (58, false)⟩,
    ⟨(some 60), .load (some 2) (.t 9), some (58, false)⟩,
    ⟨(some 61), .call (.c (.fn 45 [] [])) [(.t 59), (.t 60)], some (58, false)⟩,
    ⟨(some 62), .mov (.t 11), some (58, false)⟩,
    ⟨(some 63), .mov (.t 8), some (58, false)⟩,
    ⟨(some 64), .mov (.t 1), some (58, false)⟩,
    ⟨(some 65), .mov (.t 8), some (58, false)⟩,
    ⟨(some 66), .idxs 1 (.t 64) (.t 65), some (58, false)⟩,
    ⟨(some 67), .load none (.t 66), some (58, false)⟩,
    ⟨(some 68), .build [.int .i64 0, .bool false] [(0, 1, (.t 63)), (1, 1, (.t 67))], some (58, false)⟩,
    ⟨(some 69), .call (.c (.fn 45 [] [])) [(.t 62), (.t 68)], some (58, false)⟩,
    ⟨(some 70), .eqb true (.t 61) (.t 69), some (58, false)⟩,
    ⟨(some 71), .pick (.t 58) (.c (.bool true)) (.t 70), none⟩] (some [[], [0], [1], [2], [2], [3, 4, 2, 2], [2], [2], [2], [2], [8, 9, 2], [10, 2], [7, 11, 2], [6, 12, 5, 2], [5, 13, 2], [2, 14]]))
  (.cond (.t 71) (.seq (.region [⟨(some 4), .mov (.c (.bool false)), none⟩] none)
  (.ret))
  (.skip)))))))))
  (.region [⟨(some 72), .bin .add (.t 33) (.c (.int .i64 1)), none⟩,
    ⟨(some 33), .mov (.t 72), none⟩] none)))

def b8_2 : IC := .seq (.region [⟨(some 76), .bin .lss (.t 75) (.t 74), none⟩] none)
  (.seq (.cond (.t 76) (.skip)
  (.exit 2))
  (.seq (.block 3 (.seq (.region [⟨(some 77), .idxs 1 (.t 73) (.t 75), none⟩,
    ⟨(some 78), .load none (.t 77), none⟩,
    ⟨(some 15), .mov (.t 78), none⟩] none)
  (.seq (.region [⟨(some 79), .mov (.t 15), none⟩] none)
  (.cond (.t 79) (.region [⟨(some 80), .mov (.t 13), none⟩,
    ⟨(some 81), .bin .add (.t 80) (.c (.int .i64 1)), none⟩,
    ⟨(some 13), .mov (.t 81), none⟩] none)
  (.skip)))))
  (.region [⟨(some 82), .bin .add (.t 75) (.c (.int .i64 1)), none⟩,
    ⟨(some 75), .mov (.t 82), none⟩] none)))

-- pneumatic/pneumaticlaw50.HomingReturns
def ic8 : IC := .seq (.region [⟨(some 2), .box (.t 0), none⟩,
    ⟨(some 4), .mov (.c (.bool false)), none⟩] none)
  (.seq (.region [⟨(some 17), .mov (.t 1), none⟩,
    ⟨(some 18), .len false (.t 17), none⟩,
    ⟨(some 5), .mov (.t 18), none⟩] none)
  (.seq (.seq (.region [⟨(some 19), .load (some 1) (.t 2), none⟩,
    ⟨(some 20), .mov (.t 5), none⟩,
    ⟨(some 21), .call (.c (.fn 40 [] [])) [(.t 19), (.t 20)], none⟩,
    ⟨(some 22), .un .not (.t 21), none⟩] none)
  (.cond (.t 22) (.seq (.region [⟨(some 23), .call (.c (.fn 36 [] [])) [], none⟩,
    ⟨(some 4), .mov (.t 23), none⟩] none)
  (.ret))
  (.skip)))
  (.seq (.region [⟨(some 25), .load (some 1) (.t 2), none⟩,
    ⟨(some 26), .mov (.t 1), none⟩,
    ⟨(some 27), .call (.c (.fn 43 [] [])) [(.t 25), (.t 26)], none⟩,
    ⟨(some 24), .mov (.t 27), none⟩,
    ⟨(some 28), .extract (.t 24) 0, none⟩,
    ⟨(some 29), .extract (.t 24) 1, none⟩,
    ⟨(some 6), .mov (.t 28), none⟩,
    ⟨(some 7), .mov (.t 29), none⟩] none)
  (.seq (.seq (.region [⟨(some 30), .mov (.t 7), none⟩,
    ⟨(some 31), .bin .neq (.t 30) (.c (.int .i64 0)), none⟩] none)
  (.cond (.t 31) (.seq (.region [⟨(some 4), .mov (.c (.bool false)), none⟩] none)
  (.ret))
  (.skip)))
  (.seq (.seq (.region [⟨(some 32), .mov (.t 5), none⟩,
    ⟨(some 33), .mov (.c (.int .i64 0)), none⟩] none)
  (.block 0 (.loop b8_0)))
  (.seq (.region [⟨(some 13), .mov (.c (.int .i64 0)), none⟩] none)
  (.seq (.seq (.region [⟨(some 73), .mov (.t 1), none⟩,
    ⟨(some 74), .len false (.t 73), none⟩,
    ⟨(some 75), .mov (.c (.int .i64 0)), none⟩] none)
  (.block 2 (.loop b8_2)))
  (.seq (.region [⟨(some 84), .build [.nils] [], none⟩,
    ⟨(some 85), .mov (.t 1), none⟩,
    ⟨(some 86), .call (.c (.fn 37 [] [])) [(.t 84), (.t 85)], none⟩,
    ⟨(some 83), .mov (.t 86), none⟩,
    ⟨(some 87), .extract (.t 83) 0, none⟩,
    ⟨(some 88), .extract (.t 83) 1, none⟩,
    ⟨(some 16), .mov (.t 87), none⟩,
    ⟨(some 7), .mov (.t 88), none⟩] none)
  (.seq (.region [⟨(some 89), .mov (.t 7), none⟩,
    ⟨(some 90), .bin .eql (.t 89) (.c (.int .i64 0)), none⟩,
    ⟨(some 91), .mov (.t 90), none⟩,
    ⟨(some 92), .mov (.t 16), some (91, true)⟩,
    ⟨(some 93), .len false (.t 92), some (91, true)⟩,
    ⟨(some 94), .mov (.t 13), some (91, true)⟩,
    ⟨(some 95), .bin .eql (.t 93) (.t 94), some (91, true)⟩,
    ⟨(some 96), .pick (.t 91) (.t 95) (.c (.bool false)), none⟩,
    ⟨(some 97), .mov (.t 96), none⟩,
    ⟨(some 98), .call (.c (.fn 36 [] [])) [], some (97, true)⟩,
    ⟨(some 99), .pick (.t 97) (.t 98) (.c (.bool false)), none⟩,
    ⟨(some 4), .mov (.t 99), none⟩] none)
  (.ret))))))))))
theorem fn8 : env0.fn 8 = some ⟨100, ic8, [.t 4]⟩ := by kernel_rfl

theorem cnt_take {e : List Bool} {i : Nat} (h : i < e.length) : cntB (e.take (i + 1)) = cntB (e.take i) + (if e.getD i false then 1 else 0) := by
  unfold cntB
  rw [List.take_add_one, List.getElem?_eq_getElem h, List.filter_append, List.length_append]
  congr 1
  rw [List.getD_eq_getElem?_getD, List.getElem?_eq_getElem h]
  show ([e[i]].filter _).length = if e[i] then 1 else 0
  cases e[i] <;> rfl

theorem cntB_le (e : List Bool) : cntB e ≤ e.length := List.length_filter_le ..

set_option maxHeartbeats 8000000 in
theorem law8h (l : List Ex) (hlen : l.length < 9223372036854775808) (hsl : ∀ y ∈ l, Slim y) (e : List Bool) : PF Try.prog 8 [.agg [.vs (cXs l)], vsB e] (.bool true) := by
  have hright := right40 l hlen hsl e.length
  have hel : (e.map fun b => ([.bool b] : List AV)).length = e.length := List.length_map ..
  have haw := awake36'
  refine PF_of_Z env0_ok fn8 [(0, .agg [.vs (cXs l)]), (1, vsB e)] (by show 2 ≤ 100; decide) rfl fun w0 N0 => ?_
  unfold ic8
  repeat (first | refine z_seq ?_ | refine z_region rfl ?_ | refine o_nil ?_ | refine u_seq ?_ | refine o_mov rfl ?_ | refine o_loadn rfl rfl rfl rfl ?_ | refine o_len rfl rfl ?_ | refine o_box rfl rfl ?_)
  rw [hel]
  refine o_call rfl rfl hright (fun h => Bool.noConfusion (show false = true from h)) ?_
  cases hr : rightB l e.length with
  | false =>
    repeat (first | refine z_seq ?_ | refine z_region rfl ?_ | refine o_nil ?_ | refine u_seq ?_ | refine z_ct rfl ?_ | refine o_un rfl rfl ?_)
    refine o_call rfl rfl haw (fun h => Bool.noConfusion (show false = true from h)) ?_
    repeat (first | refine o_nil ?_ | refine u_seq ?_ | refine z_ret ?_ | refine u_ret_seq ?_ | refine o_mov rfl ?_)
    exact u_end ⟨.inr rfl, _, rfl, rfl⟩
  | true =>
    obtain ⟨r1, r2, r3, hg⟩ := right_ok hr
    have h1 : 1 ≤ e.length := by omega
    have h4 : e.length ≤ 4 := by omega
    have p1 := permitted43 l hsl e fun _ => h4
    rw [permV, if_pos hg] at p1
    repeat (first | refine z_seq ?_ | refine z_region rfl ?_ | refine o_nil ?_ | refine u_seq ?_ | refine z_skip ?_ | refine z_cf rfl ?_ | refine o_mov rfl ?_ | refine o_loadn rfl rfl rfl rfl ?_ | refine o_un rfl rfl ?_)
    refine o_call rfl rfl p1 (fun h => Bool.noConfusion (show false = true from h)) ?_
    repeat (first | refine z_seq ?_ | refine z_region rfl ?_ | refine o_nil ?_ | refine u_seq ?_ | refine z_block ?_ | refine z_skip ?_ | refine z_cf rfl ?_ | refine o_mov rfl ?_ | refine o_extract rfl rfl ?_ | refine o_cmpf rfl rfl rfl ?_)
    refine z_loop (fun mm S => ∃ i, mm = e.length - i ∧ i ≤ e.length ∧ S = st 100 [(1, vsB e), (2, .vptr [.vs (cXs l)]), (6, .vs (cSs (movesL l e))), (32, .int .i64 (e.length : Nat)), (33, .int .i64 (i : Nat))] [] 0 1) e.length
      (sub_renw [] [(0, 0, [.vs (cXs l)])] rfl rfl rfl (.cons rfl rfl .nil) .nil (l' := [(1, vsB e), (2, .vptr [.vs (cXs l)]), (6, .vs (cSs (movesL l e))), (32, .int .i64 (e.length : Nat)), (33, .int .i64 ((0 : Nat) : Int))]) (.cons rfl (.same rfl) (.cons rfl (.fptr rfl rfl) (.cons rfl (.same rfl) (.cons rfl (.same rfl) (.cons rfl (.same rfl) .nil)))))) ⟨0, rfl, Nat.zero_le _, rfl⟩ ?_
    rintro mm S ⟨i, rfl, hi, rfl⟩
    unfold b8_0
    repeat (first | refine z_seq ?_ | refine z_region rfl ?_)
    refine o_cmp rfl rfl rfl (fun h3 => ?_) fun h3 => ?_
    · have hlt : i < e.length := by have := of_decide_eq_true h3; omega
      have hbg := bool_get hlt
      have hfl := flip_len e i
      have hf1 : 1 ≤ (flipE e i).length := by rw [hfl]; exact h1
      have hf4 : (flipE e i).length ≤ 4 := by rw [hfl]; exact h4
      have p2 := permitted43 l hsl (flipE e i) fun _ => hf4
      rw [permV, if_pos (by rw [hfl]; exact hg)] at p2
      have c1 := contains45 (movesL l e) ⟨(i : Nat), !(e.getD i false)⟩ (by have := movesT_len l e e.length; show (movesT l e e.length).length ≤ _; omega)
      rw [moves_any l e hlt] at c1
      have hgf : (flipE e i).getD i false = !(e.getD i false) := by
        unfold flipE
        simp [List.getD_eq_getElem?_getD, hlt]
      have c2 := contains45 (movesL l (flipE e i)) ⟨(i : Nat), !((flipE e i).getD i false)⟩ (by have := movesT_len l (flipE e i) (flipE e i).length; show (movesT l (flipE e i) (flipE e i).length).length ≤ _; omega)
      rw [moves_any l (flipE e i) (by rw [hfl]; exact hlt), may_flip l h1 h4 hlt, hgf, Bool.not_not] at c2
      unfold cS at c1 c2
      have hsetb : (e.map AV.bool).set i (.bool (!(e.getD i false))) = (flipE e i).map AV.bool := by rw [← List.map_set]; rfl
      repeat (first | refine z_seq ?_ | refine z_region rfl ?_ | refine o_nil ?_ | refine u_seq ?_ | refine z_block ?_ | refine z_skip ?_ | refine z_ct rfl ?_ | refine o_mov rfl ?_ | refine o_load rfl rfl ?_ | refine o_store rfl rfl rfl rfl rfl rfl rfl ?_ | refine o_alloc ?_ | refine o_un rfl rfl ?_ | refine o_build rfl rfl ?_ | refine o_idxs rfl rfl (by omega) (by assumption) rfl ?_)
      refine o_own rfl rfl (clone44 h1 h4) (flatL_bools _) ?_
      repeat (first | refine z_seq ?_ | refine z_region rfl ?_ | refine o_nil ?_ | refine u_seq ?_ | refine o_mov rfl ?_ | refine o_load rfl rfl ?_ | refine o_faddrm rfl ?_ | refine o_idxsm rfl rfl (by omega) (by omega) ?_)
      have e0 : 0 + ((i : Nat) : Int).toNat * 1 = i := by omega
      rw [e0]
      refine o_storeg rfl rfl rfl rfl (by rw [List.length_map]; exact hlt) rfl ?_
      rw [hsetb]
      repeat (first | refine z_seq ?_ | refine z_region rfl ?_ | refine o_nil ?_ | refine u_seq ?_ | refine o_mov rfl ?_ | refine o_loadn rfl rfl rfl rfl ?_)
      refine o_freeze 1 2 [(1, vsB e), (2, .vptr [.vs (cXs l)]), (6, .vs (cSs (movesL l e))), (32, .int .i64 (e.length : Nat)), (33, .int .i64 (i : Nat)), (8, .int .i64 (i : Nat)), (9, .mptr 0 1 0), (51, .agg [.vs (cXs l)]), (52, vsB (flipE e i))] rfl (hasML_bools _) (.cons rfl .same (.cons rfl .same (.cons rfl .same (.cons rfl .same (.cons rfl .same (.cons rfl .same (.cons rfl .same (.cons rfl .same (.cons rfl (.fms (by rw [List.length_map, hfl]) (fun x hx => by obtain ⟨y, _, rfl⟩ := List.mem_map.1 hx; rfl) ⟨[], by rw [List.drop_zero, List.append_nil]; exact flat_bools _⟩) .nil))))))))) ?_
      refine o_call rfl rfl p2 (fun h => Bool.noConfusion (show false = true from h)) ?_
      repeat (first | refine z_seq ?_ | refine o_nil ?_ | refine u_seq ?_ | refine o_mov rfl ?_ | refine o_extract rfl rfl ?_)
      refine z_drawn env0_ok [(45, [.vs (cSs (movesL l e)), .agg [.int .i64 (i : Nat), .bool (!(e.getD i false))]], .bool (mayB l e i)), (45, [.vs (cSs (movesL l (flipE e i))), .agg [.int .i64 (i : Nat), .bool (e.getD i false)]], .bool (mayB l e i))] (fun x hx => by
        rcases List.mem_cons.1 hx with rfl | hx
        · exact c1
        obtain rfl := List.mem_singleton.1 hx
        exact c2) (fun f => Nat.beq f 45) rfl rfl rfl ?_
      repeat (first | refine o_gy rfl ?_ | refine o_mov rfl ?_ | refine o_loadn rfl rfl rfl rfl ?_ | refine o_cmpf rfl rfl rfl ?_)
      refine o_call rfl rfl lookL_here (fun h => Bool.noConfusion (show false = true from h)) ?_
      repeat (first | refine o_gy rfl ?_ | refine o_mov rfl ?_ | refine o_load rfl rfl ?_ | refine o_build rfl rfl ?_ | refine o_idxs rfl rfl (by omega) (by assumption) rfl ?_)
      refine o_call rfl rfl (lookL_or (fun _ => rfl) lookL_here) (fun h => Bool.noConfusion (show false = true from h)) ?_
      repeat (first | refine o_gy rfl ?_)
      refine o_eqb rfl rfl (fun h => absurd h (by simp)) fun _ => ?_
      repeat (first | refine z_region rfl ?_ | refine o_nil ?_ | refine u_seq ?_ | refine u_blk ?_ | refine z_skip ?_ | refine z_cf rfl ?_ | refine o_mov rfl ?_ | refine o_pickf rfl rfl ?_ | refine o_bin (op := .add) rfl rfl rfl ?_)
      rw [wrap_succ i (by omega)]
      exact u_round (show e.length - (i + 1) < e.length - i by omega) (sub_ren0 (.cons rfl (.same rfl) (.cons rfl (.same rfl) (.cons rfl (.same rfl) (.cons rfl (.same rfl) (.cons rfl (.same rfl) .nil)))))) ⟨i + 1, rfl, hlt, rfl⟩
    · repeat (first | refine z_seq ?_ | refine o_nil ?_ | refine u_seq ?_ | refine z_cf rfl ?_ | refine z_exit ?_ | refine u_exit_seq ?_)
      refine u_out ?_
      repeat (first | refine z_seq ?_ | refine z_region rfl ?_ | refine o_nil ?_ | refine u_seq ?_ | refine z_block ?_ | refine u_exit ?_ | refine o_mov rfl ?_ | refine o_len rfl rfl ?_)
      rw [hel]
      refine z_loop (fun mm S => ∃ i, mm = e.length - i ∧ i ≤ e.length ∧ S = st 100 [(1, vsB e), (13, .int .i64 (cntB (e.take i) : Nat)), (73, vsB e), (74, .int .i64 (e.length : Nat)), (75, .int .i64 (i : Nat))] [] 0 1) e.length
        (sub_ren0 (l' := [(1, vsB e), (13, .int .i64 ((0 : Nat) : Int)), (73, vsB e), (74, .int .i64 (e.length : Nat)), (75, .int .i64 ((0 : Nat) : Int))]) (.cons rfl (.same rfl) (.cons rfl (.same rfl) (.cons rfl (.same rfl) (.cons rfl (.same rfl) (.cons rfl (.same rfl) .nil)))))) ⟨0, rfl, Nat.zero_le _, rfl⟩ ?_
      rintro mm S ⟨i, rfl, hi, rfl⟩
      have hcl := cntB_le (e.take i)
      have htl : (e.take i).length ≤ 4 := by rw [List.length_take]; omega
      unfold b8_2
      repeat (first | refine z_seq ?_ | refine z_region rfl ?_)
      refine o_cmp rfl rfl rfl (fun h3 => ?_) fun h3 => ?_
      · have hlt : i < e.length := by have := of_decide_eq_true h3; omega
        have hbg := bool_get hlt
        have hct := cnt_take hlt
        repeat (first | refine z_seq ?_ | refine z_region rfl ?_ | refine o_nil ?_ | refine u_seq ?_ | refine z_block ?_ | refine z_skip ?_ | refine z_ct rfl ?_ | refine o_mov rfl ?_ | refine o_load rfl rfl ?_ | refine o_idxs rfl rfl (by omega) (by assumption) rfl ?_)
        cases hb : e.getD i false with
        | true =>
          rw [hb, if_pos rfl] at hct
          repeat (first | refine z_region rfl ?_ | refine o_nil ?_ | refine u_seq ?_ | refine u_blk ?_ | refine z_ct rfl ?_ | refine o_mov rfl ?_ | refine o_bin (op := .add) rfl rfl rfl ?_)
          rw [wrap_succ i (by omega), wrap_succ (cntB (e.take i)) (by omega)]
          exact u_round (show e.length - (i + 1) < e.length - i by omega) (sub_ren0 (l' := [(1, vsB e), (13, .int .i64 (cntB (e.take i) + 1 : Nat)), (73, vsB e), (74, .int .i64 (e.length : Nat)), (75, .int .i64 ((i + 1 : Nat) : Int))]) (.cons rfl (.same rfl) (.cons rfl (.same rfl) (.cons rfl (.same rfl) (.cons rfl (.same rfl) (.cons rfl (.same rfl) .nil)))))) ⟨i + 1, rfl, hlt, by rw [hct]⟩
        | false =>
          rw [hb, if_neg (by decide), Nat.add_zero] at hct
          repeat (first | refine z_region rfl ?_ | refine o_nil ?_ | refine u_seq ?_ | refine u_blk ?_ | refine z_skip ?_ | refine z_cf rfl ?_ | refine o_mov rfl ?_ | refine o_bin (op := .add) rfl rfl rfl ?_)
          rw [wrap_succ i (by omega)]
          exact u_round (show e.length - (i + 1) < e.length - i by omega) (sub_ren0 (l' := [(1, vsB e), (13, .int .i64 (cntB (e.take i) : Nat)), (73, vsB e), (74, .int .i64 (e.length : Nat)), (75, .int .i64 ((i + 1 : Nat) : Int))]) (.cons rfl (.same rfl) (.cons rfl (.same rfl) (.cons rfl (.same rfl) (.cons rfl (.same rfl) (.cons rfl (.same rfl) .nil)))))) ⟨i + 1, rfl, hlt, by rw [hct]; rfl⟩
      · have hi2 : i = e.length := by have := of_decide_eq_false h3; omega
        subst hi2
        rw [List.take_length]
        have p3 := find37 [] (fun y hy => absurd hy List.not_mem_nil) e fun _ => h4
        obtain ⟨q1, q2⟩ := free_all e (allE_mem e h1 h4)
        rw [findV_eq, q1] at p3
        have hLl : (cSs (findL [] e)).length = cntB e := by rw [cSs_length, q2]
        repeat (first | refine z_seq ?_ | refine o_nil ?_ | refine u_seq ?_ | refine z_cf rfl ?_ | refine z_exit ?_ | refine u_exit_seq ?_)
        refine u_out ?_
        repeat (first | refine z_seq ?_ | refine z_region rfl ?_ | refine u_seq ?_ | refine u_exit ?_ | refine o_mov rfl ?_ | refine o_build rfl rfl ?_)
        refine o_call rfl rfl p3 (fun h => Bool.noConfusion (show false = true from h)) ?_
        repeat (first | refine z_seq ?_ | refine z_region rfl ?_ | refine o_nil ?_ | refine u_seq ?_ | refine o_gy rfl ?_ | refine o_mov rfl ?_ | refine o_len rfl rfl ?_ | refine o_extract rfl rfl ?_ | refine o_cmpt rfl rfl rfl ?_)
        rw [hLl]
        refine o_cmp rfl rfl rfl (fun _ => ?_) fun h => absurd h (by simp)
        repeat (first | refine o_gy rfl ?_ | refine o_mov rfl ?_ | refine o_pickt rfl rfl ?_)
        refine o_call rfl rfl haw (fun h => Bool.noConfusion (show false = true from h)) ?_
        repeat (first | refine o_nil ?_ | refine u_seq ?_ | refine z_ret ?_ | refine o_mov rfl ?_ | refine o_pickt rfl rfl ?_)
        exact u_end ⟨.inr rfl, _, rfl, rfl⟩

end Go.Proofs.Ytoiblgbaeglgoaa
