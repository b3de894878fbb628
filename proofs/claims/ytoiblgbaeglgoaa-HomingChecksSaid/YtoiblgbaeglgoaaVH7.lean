/-
  WHETHER STROKES LEAD HOME: the reference's Check; the law of permitted strokes.
-/
import Derived.Test.YtoiblgbaeglgoaaVH6
import Derived.Test.YtoiblgbaeglgoaaVT3d
namespace Go.Proofs.Ytoiblgbaeglgoaa
open Go Go.Am

def b48_0 : IC := .seq (.seq (.region [⟨(some 26), .mov (.t 9), none⟩,
    ⟨(some 27), .mov (.t 2), none⟩,
    ⟨(some 28), .len false (.t 27), none⟩,
    ⟨(some 29), .bin .lss (.t 26) (.t 28), none⟩] none)
  (.cond (.t 29) (.skip)
  (.exit 0)))
  (.seq (.block 1 (.seq (.seq (.region [⟨(some 32), .mov (.t 2), none⟩,
    ⟨(some 33), .mov (.t 9), none⟩,
    ⟨(some 34), .idxs 2 (.t 32) (.t 33), none⟩,
    ⟨(some 35), .faddr 0 (.t 34), none⟩,
    ⟨(some 36), .load none (.t 35), none⟩,
    ⟨(some 37), .bin .lss (.t 36) (.c (.int .i64 0)), none⟩,
    ⟨(some 38), .mov (.t 37), none⟩,
    ⟨(some 39), .mov (.t 2), some (38, false)⟩,
    ⟨(some 40), .mov (.t 9), some (38, false)⟩,
    ⟨(some 41), .idxs 2 (.t 39) (.t 40), some (38, false)⟩,
    ⟨(some 42), .faddr 0 (.t 41), some (38, false)⟩,
    ⟨(some 43), .load none (.t 42), some (38, false)⟩,
    ⟨(some 44), .mov (.t 1), some (38, false)⟩,
    ⟨(some 45), .len false (.t 44), some (38, false)⟩,
    ⟨(some 46), .bin .geq (.t 43) (.t 45), some (38, false)⟩,
    ⟨(some 47), .pick (.t 38) (.c (.bool true)) (.t 46), none⟩] none)
  (.cond (.t 47) (.seq (.region [⟨(some 6), .mov (.c (.int .i64 2)), none⟩] none)
  (.ret))
  (.skip)))
  (.seq (.seq (.region [⟨(some 48), .mov (.t 8), none⟩,
    ⟨(some 49), .mov (.t 2), none⟩,
    ⟨(some 50), .mov (.t 9), none⟩,
    ⟨(some 51), .idxs 2 (.t 49) (.t 50), none⟩,
    ⟨(some 52), .faddr 0 (.t 51), none⟩,
    ⟨(some 53), .load none (.t 52), none⟩,
    ⟨(some 54), .idxs 1 (.t 48) (.t 53), none⟩,
    ⟨(some 55), .load none (.t 54), none⟩,
    ⟨(some 56), .mov (.t 2), none⟩,
    ⟨(some 57), .mov (.t 9), none⟩,
    ⟨(some 58), .idxs 2 (.t 56) (.t 57), none⟩,
    ⟨(some 59), .faddr 1 (.t 58), none⟩,
    ⟨(some 60), .load none (.t 59), none⟩,
    ⟨(some 61), .eqb false (.t 55) (.t 60), none⟩] (some [[], [], [], [1, 2], [3], [4], [0, 5], [6], [], [], [8, 9], [10], [11], [7, 12]]))
  (.cond (.t 61) (.seq (.region [⟨(some 6), .mov (.c (.int .i64 14)), none⟩] none)
  (.ret))
  (.skip)))
  (.seq (.seq (.region [⟨(some 62), .load (some 1) (.t 3), none⟩,
    ⟨(some 63), .mov (.t 8), none⟩,
    ⟨(some 64), .mov (.t 2), none⟩,
    ⟨(some 65), .mov (.t 9), none⟩,
    ⟨(some 66), .idxs 2 (.t 64) (.t 65), none⟩,
    ⟨(some 67), .load (some 2) (.t 66), none⟩,
    ⟨(some 68), .call (.c (.fn 105 [] [])) [(.t 62), (.t 63), (.t 67)], none⟩,
    ⟨(some 69), .un .not (.t 68), none⟩] (some [[], [], [], [], [2, 3], [4], [0, 1, 5], [6]]))
  (.cond (.t 69) (.seq (.region [⟨(some 6), .mov (.c (.int .i64 22)), none⟩] none)
  (.ret))
  (.skip)))
  (.region [⟨(some 70), .mov (.t 2), none⟩,
    ⟨(some 71), .mov (.t 9), none⟩,
    ⟨(some 72), .idxs 2 (.t 70) (.t 71), none⟩,
    ⟨(some 73), .load (some 2) (.t 72), none⟩,
    ⟨(some 74), .bslice 2 1 [.int .i64 0, .bool false] [(0, 2, (.t 73))], none⟩,
    ⟨(some 75), .build [.nils, .int .i64 0] [(0, 1, (.t 74))], none⟩,
    ⟨(some 76), .mov (.t 8), none⟩,
    ⟨(some 77), .call (.c (.fn 88 [] [])) [(.t 75), (.t 76)], none⟩,
    ⟨(some 8), .mov (.t 77), none⟩] none)))))
  (.region [⟨(some 30), .mov (.t 9), none⟩,
    ⟨(some 31), .bin .add (.t 30) (.c (.int .i64 1)), none⟩,
    ⟨(some 9), .mov (.t 31), none⟩] none))

-- pneumatic/pneumaticref50.Check
def ic48 : IC := .seq (.region [⟨(some 3), .box (.t 0), none⟩,
    ⟨(some 6), .mov (.c (.int .i64 0)), none⟩] none)
  (.seq (.seq (.region [⟨(some 10), .load (some 1) (.t 3), none⟩,
    ⟨(some 11), .mov (.t 1), none⟩,
    ⟨(some 12), .len false (.t 11), none⟩,
    ⟨(some 13), .call (.c (.fn 67 [] [])) [(.t 10), (.t 12)], none⟩,
    ⟨(some 7), .mov (.t 13), none⟩] none)
  (.seq (.region [⟨(some 14), .mov (.t 7), none⟩,
    ⟨(some 15), .bin .neq (.t 14) (.c (.int .i64 0)), none⟩] none)
  (.cond (.t 15) (.seq (.region [⟨(some 16), .mov (.t 7), none⟩,
    ⟨(some 6), .mov (.t 16), none⟩] none)
  (.ret))
  (.skip))))
  (.seq (.seq (.region [⟨(some 17), .mov (.t 2), none⟩,
    ⟨(some 18), .len false (.t 17), none⟩,
    ⟨(some 19), .bin .gtr (.t 18) (.c (.int .i64 256)), none⟩] none)
  (.cond (.t 19) (.seq (.region [⟨(some 6), .mov (.c (.int .i64 5)), none⟩] none)
  (.ret))
  (.skip)))
  (.seq (.seq (.region [⟨(some 20), .load (some 1) (.t 3), none⟩,
    ⟨(some 21), .mov (.t 1), none⟩,
    ⟨(some 22), .call (.c (.fn 56 [] [])) [(.t 21)], none⟩,
    ⟨(some 23), .call (.c (.fn 98 [] [])) [(.t 20), (.t 22)], none⟩,
    ⟨(some 24), .un .not (.t 23), none⟩] (some [[], [], [1], [0, 2, 2], [3]]))
  (.cond (.t 24) (.seq (.region [⟨(some 6), .mov (.c (.int .i64 22)), none⟩] none)
  (.ret))
  (.skip)))
  (.seq (.region [⟨(some 25), .mov (.t 1), none⟩,
    ⟨(some 8), .mov (.t 25), none⟩] none)
  (.seq (.seq (.region [⟨(some 9), .mov (.c (.int .i64 0)), none⟩] none)
  (.block 0 (.loop b48_0)))
  (.seq (.seq (.region [⟨(some 78), .mov (.t 8), none⟩,
    ⟨(some 79), .call (.c (.fn 61 [] [])) [(.t 78)], none⟩,
    ⟨(some 80), .bin .neq (.t 79) (.c (.int .i64 0)), none⟩] none)
  (.cond (.t 80) (.seq (.region [⟨(some 6), .mov (.c (.int .i64 3)), none⟩] none)
  (.ret))
  (.skip)))
  (.seq (.region [⟨(some 6), .mov (.c (.int .i64 0)), none⟩] none)
  (.ret))))))))
theorem fn48 : env0.fn 48 = some ⟨81, ic48, [.t 6]⟩ := by kernel_rfl

set_option maxHeartbeats 4000000 in
theorem check48 (l : List Ex) (hsl : ∀ y ∈ l, Slim y) (e : List Bool) (h4 : guardC l e.length = 0 → e.length ≤ 4) (L : List Sk) : PF Try.prog 48 [.agg [.vs (cXs l)], vsB e, .vs (cSs L)] (.int .i64 (checkH l e L)) := by
  have h28 := gcheck29 l hsl e.length
  have hel : (e.map fun b => ([.bool b] : List AV)).length = e.length := List.length_map ..
  have hLl : (cSs L).length = L.length := cSs_length L
  refine PF_of_Z env0_ok fn48 [(0, .agg [.vs (cXs l)]), (1, vsB e), (2, .vs (cSs L))] (by show 3 ≤ 81; decide) rfl fun w0 N0 => ?_
  unfold ic48 checkH
  repeat (first | refine z_seq ?_ | refine z_region rfl ?_ | refine o_nil ?_ | refine u_seq ?_ | refine o_mov rfl ?_ | refine o_loadn rfl rfl rfl rfl ?_ | refine o_len rfl rfl ?_ | refine o_box rfl rfl ?_)
  rw [hel]
  refine o_call rfl rfl h28 (fun h => Bool.noConfusion (show false = true from h)) ?_
  by_cases hg : guardC l e.length = 0
  · rw [if_pos hg, hg]
    obtain ⟨g1, g2, g3, g4⟩ := guardC_ok hg
    have h4 := h4 hg
    have h1 : 1 ≤ e.length := by omega
    repeat (first | refine z_seq ?_ | refine z_region rfl ?_ | refine o_nil ?_ | refine u_seq ?_ | refine z_skip ?_ | refine z_cf rfl ?_ | refine o_mov rfl ?_ | refine o_len rfl rfl ?_ | refine o_cmpf rfl rfl rfl ?_)
    by_cases hL : L.length > 256
    · rw [if_pos hL]
      refine o_cmp rfl rfl rfl (fun h => ?_) fun h => absurd h (by rw [hLl]; simp; omega)
      repeat (first | refine z_seq ?_ | refine z_region rfl ?_ | refine o_nil ?_ | refine u_seq ?_ | refine z_ct rfl ?_ | refine z_ret ?_ | refine u_ret_seq ?_ | refine o_mov rfl ?_)
      exact u_end ⟨.inr rfl, _, rfl, rfl⟩
    rw [if_neg hL]
    refine o_cmp rfl rfl rfl (fun h => absurd h (by rw [hLl]; simp; omega)) fun h => ?_
    repeat (first | refine z_seq ?_ | refine o_nil ?_ | refine u_seq ?_ | refine z_skip ?_ | refine z_cf rfl ?_)
    refine z_drawn env0_ok [(56, [vsB e], vsI (posE e)), (98, [.agg [.vs (cXs l)], vsI (posE e)], .bool (freeB l (posE e)))] (fun x hx => by
      rcases List.mem_cons.1 hx with rfl | hx
      · exact pos56 h1 h4
      obtain rfl := List.mem_singleton.1 hx
      exact free98 l hg (posE e) (posE_len e)) (fun f => Nat.beq f 56 || Nat.beq f 98) rfl rfl rfl ?_
    repeat (first | refine o_mov rfl ?_ | refine o_loadn rfl rfl rfl rfl ?_)
    refine o_call rfl rfl lookL_here (fun h => Bool.noConfusion (show false = true from h)) ?_
    refine o_call rfl rfl (lookL_next (by decide) lookL_here) (fun h => Bool.noConfusion (show false = true from h)) ?_
    cases hf : freeB l (posE e) with
    | false =>
      repeat (first | refine z_seq ?_ | refine z_region rfl ?_ | refine o_nil ?_ | refine u_seq ?_ | refine z_ct rfl ?_ | refine z_ret ?_ | refine u_ret_seq ?_ | refine o_mov rfl ?_ | refine o_un rfl rfl ?_)
      exact u_end ⟨.inr rfl, _, rfl, rfl⟩
    | true =>
      rw [if_pos rfl]
      repeat (first | refine z_seq ?_ | refine z_region rfl ?_ | refine o_nil ?_ | refine u_seq ?_ | refine z_block ?_ | refine z_skip ?_ | refine z_cf rfl ?_ | refine o_mov rfl ?_ | refine o_un rfl rfl ?_)
      refine z_loop (fun mm S => ∃ i e', mm = L.length - i ∧ i ≤ L.length ∧ e'.length = e.length ∧ chkS l L e = chkS l (L.drop i) e' ∧
          S = st 81 [(1, vsB e), (2, .vs (cSs L)), (3, .vptr [.vs (cXs l)]), (8, vsB e'), (9, .int .i64 (i : Nat))] [] 0 1) L.length
        (sub_renw [] [(0, 0, [.vs (cXs l)])] rfl rfl rfl (.cons rfl rfl .nil) .nil (l' := [(1, vsB e), (2, .vs (cSs L)), (3, .vptr [.vs (cXs l)]), (8, vsB e), (9, .int .i64 ((0 : Nat) : Int))]) (.cons rfl (.same rfl) (.cons rfl (.same rfl) (.cons rfl (.fptr rfl rfl) (.cons rfl (.same rfl) (.cons rfl (.same rfl) .nil)))))) ⟨0, e, rfl, Nat.zero_le _, rfl, rfl, rfl⟩ ?_
      rintro mm S ⟨i, e', rfl, hi, hel', hch, rfl⟩
      have hg' : guardC l e'.length = 0 := by rw [hel']; exact hg
      have h1' : 1 ≤ e'.length := by omega
      have h4' : e'.length ≤ 4 := by omega
      unfold b48_0
      repeat (first | refine z_seq ?_ | refine z_region rfl ?_ | refine o_mov rfl ?_ | refine o_len rfl rfl ?_)
      refine o_cmp rfl rfl rfl (fun h3 => ?_) fun h3 => ?_
      · have hlt : i < L.length := by
          have : ((i : Nat) : Int) < ((cSs L).length : Nat) := of_decide_eq_true h3
          rw [hLl] at this
          omega
        have hg2 := cSs_get hlt
        rw [List.drop_eq_getElem_cons hlt] at hch
        generalize L[i] = s at hg2 hch
        obtain ⟨sa, so⟩ := s
        have hg2 : (cSs L)[((i : Nat) : Int).toNat]? = some [.int .i64 sa, .bool so] := hg2
        rw [chkS] at hch
        simp only at hch
        repeat (first | refine z_seq ?_ | refine z_region rfl ?_ | refine o_nil ?_ | refine u_seq ?_ | refine z_block ?_ | refine z_skip ?_ | refine z_ct rfl ?_ | refine o_mov rfl ?_ | refine o_load rfl rfl ?_ | refine o_faddrv rfl rfl rfl ?_ | refine o_idxs rfl rfl (by omega) (by assumption) rfl ?_)
        by_cases ha0 : sa < 0
        · rw [if_pos (.inl ha0)] at hch
          rw [hch]
          refine o_cmpt rfl rfl (by show some (AV.bool (decide (sa < 0))) = _; rw [decide_eq_true ha0]) ?_
          repeat (first | refine z_seq ?_ | refine z_region rfl ?_ | refine o_nil ?_ | refine u_seq ?_ | refine z_ct rfl ?_ | refine z_ret ?_ | refine u_ret_seq ?_ | refine u_ret_blk ?_ | refine o_gn rfl rfl ?_ | refine o_mov rfl ?_ | refine o_pickt rfl rfl ?_)
          refine u_out_ret ?_
          repeat (first | refine u_ret_seq ?_ | refine u_ret_blk ?_)
          exact u_end ⟨.inr rfl, _, rfl, rfl⟩
        refine o_cmpf rfl rfl (by show some (AV.bool (decide (sa < 0))) = _; rw [decide_eq_false ha0]) ?_
        repeat (first | refine o_gy rfl ?_ | refine o_mov rfl ?_ | refine o_load rfl rfl ?_ | refine o_faddrv rfl rfl rfl ?_ | refine o_len rfl rfl ?_ | refine o_idxs rfl rfl (by omega) (by assumption) rfl ?_)
        rw [hel]
        by_cases hal : sa ≥ (e.length : Int)
        · rw [if_pos (.inr (by omega))] at hch
          rw [hch]
          refine o_cmpt rfl rfl (by show some (AV.bool (decide (sa ≥ (e.length : Int)))) = _; rw [decide_eq_true hal]) ?_
          repeat (first | refine z_seq ?_ | refine z_region rfl ?_ | refine o_nil ?_ | refine u_seq ?_ | refine z_ct rfl ?_ | refine z_ret ?_ | refine u_ret_seq ?_ | refine u_ret_blk ?_ | refine o_mov rfl ?_ | refine o_pickf rfl rfl ?_)
          refine u_out_ret ?_
          repeat (first | refine u_ret_seq ?_ | refine u_ret_blk ?_)
          exact u_end ⟨.inr rfl, _, rfl, rfl⟩
        refine o_cmpf rfl rfl (by show some (AV.bool (decide (sa ≥ (e.length : Int)))) = _; rw [decide_eq_false hal]) ?_
        rw [if_neg (by omega)] at hch
        obtain ⟨a, rfl⟩ : ∃ a : Nat, sa = (a : Int) := ⟨sa.toNat, by omega⟩
        rw [Int.toNat_natCast] at hch
        have ha : a < e'.length := by omega
        have hbg := bool_get ha
        repeat (first | refine z_seq ?_ | refine o_nil ?_ | refine u_seq ?_ | refine z_skip ?_ | refine z_cf rfl ?_ | refine o_mov rfl ?_ | refine o_load rfl rfl ?_ | refine o_faddrv rfl rfl rfl ?_ | refine o_pickf rfl rfl ?_ | refine z_drawn0 env0_ok rfl rfl rfl ?_ | refine o_idxs rfl rfl (by omega) (by assumption) rfl ?_)
        by_cases hb : e'.getD a false = so
        · rw [if_pos hb] at hch
          rw [hch]
          refine o_eqb rfl rfl (fun _ => ?_) fun h => absurd h (by rw [hb]; simp)
          repeat (first | refine z_seq ?_ | refine z_region rfl ?_ | refine o_nil ?_ | refine u_seq ?_ | refine z_ct rfl ?_ | refine z_ret ?_ | refine u_ret_seq ?_ | refine u_ret_blk ?_ | refine o_mov rfl ?_)
          refine u_out_ret ?_
          repeat (first | refine u_ret_seq ?_ | refine u_ret_blk ?_)
          exact u_end ⟨.inr rfl, _, rfl, rfl⟩
        rw [if_neg hb] at hch
        have hmay := may105 l e' h1' h4' hg' a so ha
        have hr : mayR l e' a so = mayB l e' a := by unfold mayR; rw [if_neg hb]
        rw [hr] at hmay
        refine o_eqb rfl rfl (fun h => absurd (by simpa using h) hb) fun h => ?_
        repeat (first | refine z_seq ?_ | refine o_nil ?_ | refine u_seq ?_ | refine z_skip ?_ | refine z_cf rfl ?_)
        refine z_drawn env0_ok [(105, [.agg [.vs (cXs l)], vsB e', .agg [.int .i64 (a : Nat), .bool so]], .bool (mayB l e' a))] (fun x hx => by obtain rfl := List.mem_singleton.1 hx; exact hmay) (fun f => Nat.beq f 105) rfl rfl rfl ?_
        repeat (first | refine o_mov rfl ?_ | refine o_loadn rfl rfl rfl rfl ?_ | refine o_idxs rfl rfl (by omega) (by assumption) rfl ?_)
        refine o_call rfl rfl lookL_here (fun h => Bool.noConfusion (show false = true from h)) ?_
        cases hm : mayB l e' a with
        | false =>
          rw [hm, if_neg (by simp)] at hch
          rw [hch]
          repeat (first | refine z_seq ?_ | refine z_region rfl ?_ | refine o_nil ?_ | refine u_seq ?_ | refine z_ct rfl ?_ | refine z_ret ?_ | refine u_ret_seq ?_ | refine u_ret_blk ?_ | refine o_mov rfl ?_ | refine o_un rfl rfl ?_)
          refine u_out_ret ?_
          repeat (first | refine u_ret_seq ?_ | refine u_ret_blk ?_)
          exact u_end ⟨.inr rfl, _, rfl, rfl⟩
        | true =>
          rw [hm, if_pos rfl] at hch
          have h88 := after63 ⟨[⟨(a : Nat), so⟩], 0⟩ e' (by show 1 ≤ _; decide) (by omega) (by omega) (fun s hs => by obtain rfl := List.mem_singleton.1 hs; exact ⟨Int.natCast_nonneg a, by show ((a : Nat) : Int) < _; omega⟩)
          rw [aft_flip hb] at h88
          repeat (first | refine z_region rfl ?_ | refine o_nil ?_ | refine u_seq ?_ | refine z_skip ?_ | refine z_cf rfl ?_ | refine o_mov rfl ?_ | refine o_loadn rfl rfl rfl rfl ?_ | refine o_un rfl rfl ?_ | refine o_idxs rfl rfl (by omega) (by assumption) rfl ?_)
          refine o_fsl [[.int .i64 (a : Nat), .bool so]] rfl rfl rfl rfl ?_
          repeat (first | refine o_mov rfl ?_ | refine o_build rfl rfl ?_)
          refine o_call rfl rfl h88 (fun h => Bool.noConfusion (show false = true from h)) ?_
          repeat (first | refine z_region rfl ?_ | refine o_nil ?_ | refine u_seq ?_ | refine u_blk ?_ | refine o_mov rfl ?_ | refine o_bin (op := .add) rfl rfl rfl ?_)
          rw [wrap_succ i (by omega)]
          exact u_round (show L.length - (i + 1) < L.length - i by omega) (sub_ren0 (.cons rfl (.same rfl) (.cons rfl (.same rfl) (.cons rfl (.same rfl) (.cons rfl (.same rfl) (.cons rfl (.same rfl) .nil)))))) ⟨i + 1, flipE e' a, rfl, hlt, by rw [flip_len, hel'], hch, rfl⟩
      · have hi2 : i = L.length := by
          have : ¬ ((i : Nat) : Int) < ((cSs L).length : Nat) := of_decide_eq_false h3
          rw [hLl] at this
          omega
        subst hi2
        rw [List.drop_length, chkS] at hch
        rw [hch]
        repeat (first | refine o_nil ?_ | refine u_seq ?_ | refine z_cf rfl ?_ | refine z_exit ?_ | refine u_exit_seq ?_)
        refine u_out ?_
        repeat (first | refine z_seq ?_ | refine z_region rfl ?_ | refine u_seq ?_ | refine u_exit ?_ | refine o_mov rfl ?_)
        refine o_call rfl rfl (index61 h1' h4') (fun h => Bool.noConfusion (show false = true from h)) ?_
        by_cases h0 : idxE e' = 0
        · rw [if_pos h0]
          refine o_cmp rfl rfl rfl (fun h => absurd h (by rw [h0]; simp)) fun _ => ?_
          repeat (first | refine z_seq ?_ | refine z_region rfl ?_ | refine o_nil ?_ | refine u_seq ?_ | refine z_skip ?_ | refine z_cf rfl ?_ | refine z_ret ?_ | refine o_mov rfl ?_)
          exact u_end ⟨.inr rfl, _, rfl, rfl⟩
        · rw [if_neg h0]
          refine o_cmp rfl rfl rfl (fun _ => ?_) fun h => absurd h (by simpa using h0)
          repeat (first | refine z_seq ?_ | refine z_region rfl ?_ | refine o_nil ?_ | refine u_seq ?_ | refine z_ct rfl ?_ | refine z_ret ?_ | refine u_ret_seq ?_ | refine o_mov rfl ?_)
          exact u_end ⟨.inr rfl, _, rfl, rfl⟩
  · rw [if_neg hg]
    repeat (first | refine z_seq ?_ | refine z_region rfl ?_ | refine o_nil ?_ | refine u_seq ?_ | refine o_mov rfl ?_)
    refine o_cmp rfl rfl rfl (fun h => ?_) fun h => absurd (by simpa using h) hg
    repeat (first | refine z_seq ?_ | refine z_region rfl ?_ | refine o_nil ?_ | refine u_seq ?_ | refine z_ct rfl ?_ | refine z_ret ?_ | refine u_ret_seq ?_ | refine o_mov rfl ?_)
    exact u_end ⟨.inr rfl, _, rfl, rfl⟩

def permL (l : List Ex) (e : List Bool) : List Sk := if guardC l e.length = 0 then movesL l e else []

theorem permV_eq (l : List Ex) (e : List Bool) : permV l e = .tup [.vs (cSs (permL l e)), .int .i64 (guardC l e.length)] := by
  unfold permV permL
  split
  · rename_i h; rw [h]
  · rfl

theorem permL_len (l : List Ex) (e : List Bool) : (permL l e).length ≤ e.length := by
  unfold permL
  split
  · exact movesT_len l e e.length
  · exact Nat.zero_le _

theorem few_of {l : List Ex} {n : Int} (h : fewH l n = true) (hg : guardC l n = 0) : n ≤ 4 := by
  obtain ⟨g1, g2, _⟩ := guardC_ok hg
  unfold fewH at h
  simp only [Bool.and_eq_true, Bool.or_eq_true, decide_eq_true_eq] at h
  omega

theorem awake36 : PF Try.prog 36 [] (.bool true) := tab36_ok _ (List.mem_cons_self ..) _ (List.mem_cons_self ..)

-- pneumatic/pneumaticlaw50.HomingChecks
def ic9 : IC := .seq (.region [⟨(some 3), .box (.t 0), none⟩,
    ⟨(some 6), .mov (.c (.bool false)), none⟩] none)
  (.seq (.seq (.region [⟨(some 11), .load (some 1) (.t 3), none⟩,
    ⟨(some 12), .call (.c (.fn 35 [] [])) [(.t 11)], none⟩,
    ⟨(some 13), .mov (.t 1), none⟩,
    ⟨(some 14), .len false (.t 13), none⟩,
    ⟨(some 15), .call (.c (.fn 34 [] [])) [(.t 12), (.t 14)], none⟩,
    ⟨(some 16), .un .not (.t 15), none⟩,
    ⟨(some 17), .mov (.t 16), none⟩,
    ⟨(some 18), .mov (.t 1), some (17, false)⟩,
    ⟨(some 19), .len false (.t 18), some (17, false)⟩,
    ⟨(some 20), .bin .gtr (.t 19) (.c (.int .i64 40)), some (17, false)⟩,
    ⟨(some 21), .pick (.t 17) (.c (.bool true)) (.t 20), none⟩,
    ⟨(some 22), .mov (.t 21), none⟩,
    ⟨(some 23), .mov (.t 2), some (22, false)⟩,
    ⟨(some 24), .len false (.t 23), some (22, false)⟩,
    ⟨(some 25), .bin .gtr (.t 24) (.c (.int .i64 512)), some (22, false)⟩,
    ⟨(some 26), .pick (.t 22) (.c (.bool true)) (.t 25), none⟩] none)
  (.cond (.t 26) (.seq (.region [⟨(some 27), .call (.c (.fn 36 [] [])) [], none⟩,
    ⟨(some 6), .mov (.t 27), none⟩] none)
  (.ret))
  (.skip)))
  (.seq (.region [⟨(some 29), .load (some 1) (.t 3), none⟩,
    ⟨(some 30), .mov (.t 1), none⟩,
    ⟨(some 31), .call (.c (.fn 43 [] [])) [(.t 29), (.t 30)], none⟩,
    ⟨(some 28), .mov (.t 31), none⟩,
    ⟨(some 32), .extract (.t 28) 0, none⟩,
    ⟨(some 33), .extract (.t 28) 1, none⟩,
    ⟨(some 7), .mov (.t 32), none⟩,
    ⟨(some 8), .mov (.t 33), none⟩] none)
  (.seq (.region [⟨(some 35), .load (some 1) (.t 3), none⟩,
    ⟨(some 36), .call (.c (.fn 35 [] [])) [(.t 35)], none⟩,
    ⟨(some 37), .mov (.t 1), none⟩,
    ⟨(some 38), .call (.c (.fn 46 [] [])) [(.t 36), (.t 37)], none⟩,
    ⟨(some 34), .mov (.t 38), none⟩,
    ⟨(some 39), .extract (.t 34) 0, none⟩,
    ⟨(some 40), .extract (.t 34) 1, none⟩,
    ⟨(some 9), .mov (.t 39), none⟩,
    ⟨(some 10), .mov (.t 40), none⟩] none)
  (.seq (.region [⟨(some 41), .mov (.t 7), none⟩,
    ⟨(some 42), .mov (.t 9), none⟩,
    ⟨(some 43), .call (.c (.fn 39 [] [])) [(.t 41), (.t 42)], none⟩,
    ⟨(some 44), .mov (.t 43), none⟩,
    ⟨(some 45), .mov (.t 8), some (44, true)⟩,
    ⟨(some 46), .mov (.t 10), some (44, true)⟩,
    ⟨(some 47), .bin .eql (.t 45) (.t 46), some (44, true)⟩,
    ⟨(some 48), .pick (.t 44) (.t 47) (.c (.bool false)), none⟩,
    ⟨(some 49), .mov (.t 48), none⟩,
    ⟨(some 50), .load (some 1) (.t 3), some (49, true)⟩,
    ⟨(some 51), .mov (.t 1), some (49, true)⟩,
    ⟨(some 52), .mov (.t 2), some (49, true)⟩,
    ⟨(some 53), .call (.c (.fn 47 [] [])) [(.t 50), (.t 51), (.t 52)], some (49, true)⟩,
    ⟨(some 54), .load (some 1) (.t 3), some (49, true)⟩,
    ⟨(some 55), .call (.c (.fn 35 [] [])) [(.t 54)], some (49, true)⟩,
    ⟨(some 56), .mov (.t 1), some (49, true)⟩,
    ⟨(some 57), .mov (.t 2), some (49, true)⟩,
    ⟨(some 58), .call (.c (.fn 48 [] [])) [(.t 55), (.t 56), (.t 57)], some (49, true)⟩,
    ⟨(some 59), .bin .eql (.t 53) (.t 58), some (49, true)⟩,
    ⟨(some 60), .pick (.t 49) (.t 59) (.c (.bool false)), none⟩,
    ⟨(some 61), .mov (.t 60), none⟩,
    ⟨(some 62), .call (.c (.fn 36 [] [])) [], some (61, true)⟩,
    ⟨(some 63), .pick (.t 61) (.t 62) (.c (.bool false)), none⟩,
    ⟨(some 6), .mov (.t 63), none⟩] (some [[], [], [0, 1], [2, 2], [3], [3], [4, 5, 3], [3, 6], [7, 3], [8], [8], [8], [9, 10, 11, 8, 8], [8], [13, 12, 8], [8], [8], [14, 15, 16, 14, 8], [12, 17, 8], [8, 18], [19, 17], [20, 20], [20, 21], [22, 21, 0, 1, 2, 3, 4, 5, 6, 7, 8, 9, 10, 11, 12, 13, 14, 15, 16, 17, 18, 19, 20, 21, 22]]))
  (.ret)))))
theorem fn9 : env0.fn 9 = some ⟨64, ic9, [.t 6]⟩ := by kernel_rfl

set_option maxHeartbeats 4000000 in
theorem law9 (l : List Ex) (hlen : l.length < 9223372036854775808) (hsl : ∀ y ∈ l, Slim y) (e : List Bool) (L : List Sk) : PF Try.prog 9 [.agg [.vs (cXs l)], vsB e, .vs (cSs L)] (.bool true) := by
  have hfew := few34 l hlen hsl e.length
  have hown := own35 l
  have hel : (e.map fun b => ([.bool b] : List AV)).length = e.length := List.length_map ..
  have hLl : (cSs L).length = L.length := cSs_length L
  have haw := awake36
  refine PF_of_Z env0_ok fn9 [(0, .agg [.vs (cXs l)]), (1, vsB e), (2, .vs (cSs L))] (by show 3 ≤ 64; decide) rfl fun w0 N0 => ?_
  unfold ic9
  repeat (first | refine z_seq ?_ | refine z_region rfl ?_ | refine o_nil ?_ | refine u_seq ?_ | refine o_mov rfl ?_ | refine o_loadn rfl rfl rfl rfl ?_ | refine o_box rfl rfl ?_)
  refine o_call rfl rfl hown (fun h => Bool.noConfusion (show false = true from h)) ?_
  repeat (first | refine o_mov rfl ?_ | refine o_len rfl rfl ?_)
  rw [hel]
  refine o_call rfl rfl hfew (fun h => Bool.noConfusion (show false = true from h)) ?_
  repeat (first | refine o_mov rfl ?_ | refine o_un rfl rfl ?_)
  cases hfw : fewH l e.length with
  | false =>
    repeat (first | refine z_seq ?_ | refine z_region rfl ?_ | refine o_nil ?_ | refine u_seq ?_ | refine z_ct rfl ?_ | refine o_gn rfl rfl ?_ | refine o_mov rfl ?_ | refine o_pickt rfl rfl ?_)
    refine o_call rfl rfl haw (fun h => Bool.noConfusion (show false = true from h)) ?_
    repeat (first | refine o_nil ?_ | refine u_seq ?_ | refine z_ret ?_ | refine u_ret_seq ?_ | refine o_mov rfl ?_)
    exact u_end ⟨.inr rfl, _, rfl, rfl⟩
  | true =>
    have h4 : guardC l e.length = 0 → e.length ≤ 4 := fun h => by have := few_of hfw h; omega
    repeat (first | refine o_gy rfl ?_ | refine o_mov rfl ?_ | refine o_len rfl rfl ?_)
    rw [hel]
    refine o_cmp rfl rfl rfl (fun h => ?_) fun h => ?_
    · repeat (first | refine z_seq ?_ | refine z_region rfl ?_ | refine o_nil ?_ | refine u_seq ?_ | refine z_ct rfl ?_ | refine o_gn rfl rfl ?_ | refine o_mov rfl ?_ | refine o_pickt rfl rfl ?_ | refine o_pickf rfl rfl ?_)
      refine o_call rfl rfl haw (fun h => Bool.noConfusion (show false = true from h)) ?_
      repeat (first | refine o_nil ?_ | refine u_seq ?_ | refine z_ret ?_ | refine u_ret_seq ?_ | refine o_mov rfl ?_)
      exact u_end ⟨.inr rfl, _, rfl, rfl⟩
    have he40 : e.length ≤ 40 := by
      have := of_decide_eq_false h
      omega
    repeat (first | refine o_gy rfl ?_ | refine o_mov rfl ?_ | refine o_pickf rfl rfl ?_ | refine o_len rfl rfl ?_)
    refine o_cmp rfl rfl rfl (fun h => ?_) fun h => ?_
    · repeat (first | refine z_seq ?_ | refine z_region rfl ?_ | refine o_nil ?_ | refine u_seq ?_ | refine z_ct rfl ?_ | refine o_pickf rfl rfl ?_)
      refine o_call rfl rfl haw (fun h => Bool.noConfusion (show false = true from h)) ?_
      repeat (first | refine o_nil ?_ | refine u_seq ?_ | refine z_ret ?_ | refine u_ret_seq ?_ | refine o_mov rfl ?_)
      exact u_end ⟨.inr rfl, _, rfl, rfl⟩
    have p1 := permitted43 l hsl e h4
    have p2 := permitted46 l hsl e h4
    rw [permV_eq] at p1 p2
    have hpl := permL_len l e
    repeat (first | refine z_seq ?_ | refine z_region rfl ?_ | refine o_nil ?_ | refine u_seq ?_ | refine z_skip ?_ | refine z_cf rfl ?_ | refine o_mov rfl ?_ | refine o_loadn rfl rfl rfl rfl ?_ | refine o_pickf rfl rfl ?_)
    refine o_call rfl rfl p1 (fun h => Bool.noConfusion (show false = true from h)) ?_
    repeat (first | refine z_seq ?_ | refine z_region rfl ?_ | refine o_nil ?_ | refine u_seq ?_ | refine o_mov rfl ?_ | refine o_loadn rfl rfl rfl rfl ?_ | refine o_extract rfl rfl ?_)
    refine o_call rfl rfl hown (fun h => Bool.noConfusion (show false = true from h)) ?_
    repeat (first | refine o_mov rfl ?_)
    refine o_call rfl rfl p2 (fun h => Bool.noConfusion (show false = true from h)) ?_
    repeat (first | refine z_seq ?_ | refine o_nil ?_ | refine u_seq ?_ | refine o_mov rfl ?_ | refine o_extract rfl rfl ?_)
    refine z_drawn env0_ok [(39, [.vs (cSs (permL l e)), .vs (cSs (permL l e))], .bool true), (47, [.agg [.vs (cXs l)], vsB e, .vs (cSs L)], .int .i64 (checkH l e L)), (48, [.agg [.vs (cXs l)], vsB e, .vs (cSs L)], .int .i64 (checkH l e L)), (35, [.agg [.vs (cXs l)]], .agg [.vs (cXs l)]), (36, [], .bool true)] (fun x hx => by
      rcases List.mem_cons.1 hx with rfl | hx
      · exact refl39 _ (by omega)
      rcases List.mem_cons.1 hx with rfl | hx
      · exact check47 l hsl e h4 L
      rcases List.mem_cons.1 hx with rfl | hx
      · exact check48 l hsl e h4 L
      rcases List.mem_cons.1 hx with rfl | hx
      · exact hown
      obtain rfl := List.mem_singleton.1 hx
      exact haw) (fun f => Nat.beq f 39 || Nat.beq f 47 || Nat.beq f 48 || Nat.beq f 35 || Nat.beq f 36) rfl rfl rfl ?_
    repeat (first | refine o_mov rfl ?_)
    refine o_call rfl rfl lookL_here (fun h => Bool.noConfusion (show false = true from h)) ?_
    repeat (first | refine o_gy rfl ?_ | refine o_mov rfl ?_)
    refine o_cmp rfl rfl rfl (fun _ => ?_) fun h => absurd h (by simp)
    repeat (first | refine o_gy rfl ?_ | refine o_mov rfl ?_ | refine o_loadn rfl rfl rfl rfl ?_ | refine o_pickt rfl rfl ?_)
    refine o_call rfl rfl (lookL_next (by decide) lookL_here) (fun h => Bool.noConfusion (show false = true from h)) ?_
    repeat (first | refine o_gy rfl ?_ | refine o_loadn rfl rfl rfl rfl ?_)
    refine o_call rfl rfl (lookL_next (by decide) (lookL_next (by decide) (lookL_next (by decide) lookL_here))) (fun h => Bool.noConfusion (show false = true from h)) ?_
    repeat (first | refine o_gy rfl ?_ | refine o_mov rfl ?_)
    refine o_call rfl rfl (lookL_next (by decide) (lookL_next (by decide) lookL_here)) (fun h => Bool.noConfusion (show false = true from h)) ?_
    repeat (first | refine o_gy rfl ?_)
    refine o_cmp rfl rfl rfl (fun _ => ?_) fun h => absurd h (by simp)
    repeat (first | refine o_gy rfl ?_ | refine o_mov rfl ?_ | refine o_pickt rfl rfl ?_)
    refine o_call rfl rfl (lookL_next (by decide) (lookL_next (by decide) (lookL_next (by decide) (lookL_next (by decide) lookL_here)))) (fun h => Bool.noConfusion (show false = true from h)) ?_
    repeat (first | refine o_nil ?_ | refine u_seq ?_ | refine z_ret ?_ | refine o_mov rfl ?_ | refine o_pickt rfl rfl ?_)
    exact u_end ⟨.inr rfl, _, rfl, rfl⟩

end Go.Proofs.Ytoiblgbaeglgoaa
