/-
  THE PROGRAM OF STROKES: the reference's.
-/
import Derived.Test.YtoiblgbaeglgoaaVH25
namespace Go.Proofs.Ytoiblgbaeglgoaa
open Go Go.Am

def b54_0 : IC := .seq (.seq (.region [⟨(some 19), .mov (.t 9), none⟩,
    ⟨(some 20), .mov (.t 6), none⟩,
    ⟨(some 21), .len false (.t 20), none⟩,
    ⟨(some 22), .bin .lss (.t 19) (.t 21), none⟩] none)
  (.cond (.t 22) (.skip)
  (.exit 0)))
  (.seq (.block 1 (.block 2 (.seq (.region [⟨(some 38), .mov (.t 6), none⟩,
    ⟨(some 39), .mov (.t 9), none⟩,
    ⟨(some 40), .idxs 1 (.t 38) (.t 39), none⟩,
    ⟨(some 41), .load none (.t 40), none⟩,
    ⟨(some 42), .bin .lss (.t 41) (.c (.int .i64 0)), none⟩,
    ⟨(some 37), .mov (.t 42), none⟩] none)
  (.cond (.t 37) (.region [⟨(some 43), .mov (.t 8), none⟩,
    ⟨(some 44), .bslice 1 1 [.int .i64 0] [(0, 1, (.c (.int .i64 (-2))))], none⟩,
    ⟨(some 45), .append 1 8 [.int .i64 0] (.t 43) (.t 44), none⟩,
    ⟨(some 8), .mov (.t 45), none⟩] none)
  (.seq (.region [⟨(some 47), .mov (.t 6), none⟩,
    ⟨(some 48), .mov (.t 9), none⟩,
    ⟨(some 49), .idxs 1 (.t 47) (.t 48), none⟩,
    ⟨(some 50), .load none (.t 49), none⟩,
    ⟨(some 51), .bin .eql (.t 50) (.c (.int .i64 0)), none⟩,
    ⟨(some 46), .mov (.t 51), none⟩] none)
  (.cond (.t 46) (.region [⟨(some 52), .mov (.t 8), none⟩,
    ⟨(some 53), .bslice 1 1 [.int .i64 0] [(0, 1, (.c (.int .i64 (-1))))], none⟩,
    ⟨(some 54), .append 1 8 [.int .i64 0] (.t 52) (.t 53), none⟩,
    ⟨(some 8), .mov (.t 54), none⟩] none)
  (.region [⟨(some 25), .mov (.t 8), none⟩,
    ⟨(some 26), .load (some 1) (.t 2), none⟩,
    ⟨(some 27), .mov (.t 1), none⟩,
    ⟨(some 28), .mov (.t 9), none⟩,
    ⟨(some 29), .call (.c (.fn 55 [] [])) [(.t 27), (.t 28)], none⟩,
    ⟨(some 30), .mov (.t 6), none⟩,
    ⟨(some 31), .call (.c (.fn 100 [] [])) [(.t 26), (.t 29), (.t 30)], none⟩,
    ⟨(some 32), .idxs 2 (.t 31) (.c (.int .i64 0)), none⟩,
    ⟨(some 33), .faddr 0 (.t 32), none⟩,
    ⟨(some 34), .load none (.t 33), none⟩,
    ⟨(some 35), .bslice 1 1 [.int .i64 0] [(0, 1, (.t 34))], none⟩,
    ⟨(some 36), .append 1 8 [.int .i64 0] (.t 25) (.t 35), none⟩,
    ⟨(some 8), .mov (.t 36), none⟩] (some [[], [], [], [], [2, 3], [], [1, 4, 5, 4], [6], [7], [8], [9], [0, 10, 6], [11, 11, 0, 1, 2, 3, 4, 5, 6, 7, 8, 9, 10, 11]]))))))))
  (.region [⟨(some 23), .mov (.t 9), none⟩,
    ⟨(some 24), .bin .add (.t 23) (.c (.int .i64 1)), none⟩,
    ⟨(some 9), .mov (.t 24), none⟩] none))

-- pneumatic/pneumaticref50.Program
def ic54 : IC := .seq (.region [⟨(some 2), .box (.t 0), none⟩,
    ⟨(some 4), .mov (.c (.nils)), none⟩,
    ⟨(some 5), .mov (.c (.int .i64 0)), none⟩] none)
  (.seq (.region [⟨(some 11), .load (some 1) (.t 2), none⟩,
    ⟨(some 12), .mov (.t 1), none⟩,
    ⟨(some 13), .call (.c (.fn 49 [] [])) [(.t 11), (.t 12)], none⟩,
    ⟨(some 10), .mov (.t 13), none⟩,
    ⟨(some 14), .extract (.t 10) 0, none⟩,
    ⟨(some 15), .extract (.t 10) 1, none⟩,
    ⟨(some 6), .mov (.t 14), none⟩,
    ⟨(some 7), .mov (.t 15), none⟩] none)
  (.seq (.seq (.region [⟨(some 16), .mov (.t 7), none⟩,
    ⟨(some 17), .bin .neq (.t 16) (.c (.int .i64 0)), none⟩] none)
  (.cond (.t 17) (.seq (.region [⟨(some 18), .mov (.t 7), none⟩,
    ⟨(some 4), .mov (.c (.nils)), none⟩,
    ⟨(some 5), .mov (.t 18), none⟩] none)
  (.ret))
  (.skip)))
  (.seq (.region [⟨(some 8), .mov (.c (.nils)), none⟩] none)
  (.seq (.seq (.region [⟨(some 9), .mov (.c (.int .i64 0)), none⟩] none)
  (.block 0 (.loop b54_0)))
  (.seq (.region [⟨(some 55), .mov (.t 8), none⟩,
    ⟨(some 4), .mov (.t 55), none⟩,
    ⟨(some 5), .mov (.c (.int .i64 0)), none⟩] none)
  (.ret))))))
theorem fn54 : env0.fn 54 = some ⟨56, ic54, [.t 4, .t 5]⟩ := by kernel_rfl

set_option maxHeartbeats 8000000 in
theorem program54 (l : List Ex) (hsl : ∀ y ∈ l, Slim y) (n : Int) (h4 : guardC l n = 0 → n ≤ 4) : PF Try.prog 54 [.agg [.vs (cXs l)], .int .i64 n] (progV l n) := by
  have p1 := levels49 l hsl n h4
  refine PF_of_Z env0_ok fn54 [(0, .agg [.vs (cXs l)]), (1, .int .i64 n)] (by show 2 ≤ 56; decide) rfl fun w0 N0 => ?_
  unfold ic54 progV
  repeat (first | refine z_seq ?_ | refine z_region rfl ?_ | refine o_nil ?_ | refine u_seq ?_ | refine o_mov rfl ?_ | refine o_loadn rfl rfl rfl rfl ?_ | refine o_box rfl rfl ?_)
  by_cases hg : guardC l n = 0
  · rw [levV, if_pos hg] at p1
    rw [if_pos hg]
    obtain ⟨g1, g2, g3, g4⟩ := guardC_ok hg
    have h4 := h4 hg
    obtain ⟨m, rfl⟩ : ∃ m : Nat, n = (m : Int) := ⟨n.toNat, by omega⟩
    rw [Int.toNat_natCast] at p1 ⊢
    have h1 : 1 ≤ m := by omega
    have h4 : m ≤ 4 := by omega
    have hD := lev_any (l := l) h1 h4
    have hb := lev_bound h4 hD
    have hp4 := pow4 h4
    generalize levL l m = D at *
    have hDl : (D.map fun z => ([.int .i64 z] : List AV)).length = 2 ^ m := by rw [List.length_map, hD.len]
    refine o_call rfl rfl p1 (fun h => Bool.noConfusion (show false = true from h)) ?_
    repeat (first | refine z_seq ?_ | refine z_region rfl ?_ | refine o_nil ?_ | refine u_seq ?_ | refine z_block ?_ | refine z_skip ?_ | refine z_cf rfl ?_ | refine o_mov rfl ?_ | refine o_extract rfl rfl ?_ | refine o_cmpf rfl rfl rfl ?_)
    refine z_loop (fun mm S => ∃ k, mm = 2 ^ m - k ∧ k ≤ 2 ^ m ∧ S = st 56 [(1, .int .i64 (m : Nat)), (2, .vptr [.vs (cXs l)]), (6, vsI D), (8, .ms 0 0 1 0 (k) none), (9, .int .i64 (k : Nat))] [(0, 0, .cells ((progT l m D k).map (AV.int .i64)))] 1 1) (2 ^ m)
      (sub_renw [(none, [])] [(0, 0, [.vs (cXs l)])] rfl rfl rfl (.cons rfl rfl .nil) (.new .nil) (l' := [(1, .int .i64 (m : Nat)), (2, .vptr [.vs (cXs l)]), (6, vsI D), (8, .ms 0 0 1 0 0 none), (9, .int .i64 ((0 : Nat) : Int))]) (.cons rfl (.same rfl) (.cons rfl (.fptr rfl rfl) (.cons rfl (.same rfl) (.cons rfl (.grow rfl) (.cons rfl (.same rfl) .nil)))))) ⟨0, rfl, Nat.zero_le _, rfl⟩ ?_
    rintro mm S ⟨k, rfl, hk, rfl⟩
    unfold b54_0
    repeat (first | refine z_seq ?_ | refine z_region rfl ?_ | refine o_mov rfl ?_ | refine o_len rfl rfl ?_)
    rw [hDl]
    refine o_cmp rfl rfl rfl (fun h3 => ?_) fun h3 => ?_
    · have hlt : k < 2 ^ m := Int.ofNat_lt.1 (of_decide_eq_true h3)
      have gk := vsI_getD (D := D) (k := k) (by rw [hD.len]; exact hlt)
      have hbl := bitsE_len m k
      have hib := idx_bits h1 h4 hlt
      repeat (first | refine z_seq ?_ | refine z_region rfl ?_ | refine o_nil ?_ | refine u_seq ?_ | refine z_block ?_ | refine z_skip ?_ | refine z_ct rfl ?_ | refine o_mov rfl ?_ | refine o_load rfl rfl ?_ | refine o_idxs rfl rfl (by omega) (by assumption) rfl ?_)
      by_cases hneg : D.getD k 0 < 0
      · have hpe : progE l m D k = -2 := by unfold progE; rw [if_pos hneg]
        refine o_cmpt rfl rfl (by show some (AV.bool (decide (D.getD k 0 < 0))) = _; rw [decide_eq_true hneg]) ?_
        repeat (first | refine z_region rfl ?_ | refine o_nil ?_ | refine u_seq ?_ | refine z_ct rfl ?_ | refine o_mov rfl ?_)
        refine o_fsl [[.int .i64 (-2)]] rfl rfl rfl rfl ?_
        refine o_append_ms [[.int .i64 (-2)]] rfl rfl rfl (fun h => Nat.noConfusion h) rfl (by decide) rfl (by rw [List.length_map, progT_len, Nat.mul_one]) (by show k + 1 ≤ _; omega) ?_
        repeat (first | refine z_region rfl ?_ | refine o_nil ?_ | refine u_seq ?_ | refine u_blk ?_ | refine o_mov rfl ?_ | refine o_bin (op := .add) rfl rfl rfl ?_)
        rw [wrap_succ k (by omega)]
        exact u_round (show 2 ^ m - (k + 1) < 2 ^ m - k by omega) (sub_renw [(some (0, 1), (progT l m D (k + 1)).map (AV.int .i64))] [] rfl rfl rfl .nil (.cons (by rw [progT_succ, hpe, List.map_append]; rfl) (.keep (hasML_intl _)) .nil) (l' := [(1, .int .i64 (m : Nat)), (2, .vptr [.vs (cXs l)]), (6, vsI D), (8, .ms 0 0 1 0 (k + 1) none), (9, .int .i64 (k + 1 : Nat))]) (.cons rfl (.same rfl) (.cons rfl (.same rfl) (.cons rfl (.same rfl) (.cons rfl (.ms rfl) (.cons rfl (.same rfl) .nil)))))) ⟨k + 1, rfl, hlt, rfl⟩
      refine o_cmpf rfl rfl (by show some (AV.bool (decide (D.getD k 0 < 0))) = _; rw [decide_eq_false hneg]) ?_
      repeat (first | refine z_seq ?_ | refine z_region rfl ?_ | refine o_nil ?_ | refine u_seq ?_ | refine z_cf rfl ?_ | refine o_mov rfl ?_ | refine o_load rfl rfl ?_ | refine o_idxs rfl rfl (by omega) (by assumption) rfl ?_)
      by_cases hz : D.getD k 0 = 0
      · have hpe : progE l m D k = -1 := by unfold progE; rw [if_neg hneg, if_pos hz]
        refine o_cmpt rfl rfl (by show some (AV.bool (D.getD k 0 == 0)) = _; rw [beq_iff_eq.2 hz]) ?_
        repeat (first | refine z_region rfl ?_ | refine o_nil ?_ | refine u_seq ?_ | refine z_ct rfl ?_ | refine o_mov rfl ?_)
        refine o_fsl [[.int .i64 (-1)]] rfl rfl rfl rfl ?_
        refine o_append_ms [[.int .i64 (-1)]] rfl rfl rfl (fun h => Nat.noConfusion h) rfl (by decide) rfl (by rw [List.length_map, progT_len, Nat.mul_one]) (by show k + 1 ≤ _; omega) ?_
        repeat (first | refine z_region rfl ?_ | refine o_nil ?_ | refine u_seq ?_ | refine u_blk ?_ | refine o_mov rfl ?_ | refine o_bin (op := .add) rfl rfl rfl ?_)
        rw [wrap_succ k (by omega)]
        exact u_round (show 2 ^ m - (k + 1) < 2 ^ m - k by omega) (sub_renw [(some (0, 1), (progT l m D (k + 1)).map (AV.int .i64))] [] rfl rfl rfl .nil (.cons (by rw [progT_succ, hpe, List.map_append]; rfl) (.keep (hasML_intl _)) .nil) (l' := [(1, .int .i64 (m : Nat)), (2, .vptr [.vs (cXs l)]), (6, vsI D), (8, .ms 0 0 1 0 (k + 1) none), (9, .int .i64 (k + 1 : Nat))]) (.cons rfl (.same rfl) (.cons rfl (.same rfl) (.cons rfl (.same rfl) (.cons rfl (.ms rfl) (.cons rfl (.same rfl) .nil)))))) ⟨k + 1, rfl, hlt, rfl⟩
      refine o_cmpf rfl rfl (by show some (AV.bool (D.getD k 0 == 0)) = _; rw [beq_false_of_ne hz]) ?_
      have h55 := ends55 (e := bitsE m k) (by rw [hbl]; exact h1) (by rw [hbl]; exact h4)
      rw [hbl, hib] at h55
      have h100 := home100 l (bitsE m k) (by rw [hbl]; exact h1) (by rw [hbl]; exact h4) (by rw [hbl]; exact hg) D (by rw [hbl]; exact hD) (by rw [hib]; omega)
      rw [hbl, hib] at h100
      obtain ⟨i, hfi, him, hDi⟩ := down_some h1 h4 hD hlt (by omega)
      have hpe : progE l m D k = (i : Int) := by unfold progE; rw [if_neg hneg, if_neg hz, hfi]
      obtain ⟨d, hd⟩ : ∃ d : Nat, (D.getD k 0).toNat = d + 1 := ⟨(D.getD k 0).toNat - 1, by omega⟩
      rw [hd, homeP, hfi] at h100
      simp only at h100
      generalize homeP l m D d (nxt m k i) = R at h100
      have gi : (cSs (skE m k i :: R))[(0 : Int).toNat]? = some [.int .i64 (i : Nat), .bool (!((bitsE m k).getD i false))] := rfl
      repeat (first | refine o_nil ?_ | refine u_seq ?_ | refine z_cf rfl ?_ | refine o_mov rfl ?_)
      refine z_drawn env0_ok [(55, [.int .i64 (m : Nat), .int .i64 (k : Nat)], vsB (bitsE m k)), (100, [.agg [.vs (cXs l)], vsB (bitsE m k), vsI D], .vs (cSs (skE m k i :: R)))] (fun x hx => by
        rcases List.mem_cons.1 hx with rfl | hx
        · exact h55
        obtain rfl := List.mem_singleton.1 hx
        exact h100) (fun f => Nat.beq f 55 || Nat.beq f 100) rfl rfl rfl ?_
      repeat (first | refine o_mov rfl ?_ | refine o_loadn rfl rfl rfl rfl ?_)
      refine o_call rfl rfl lookL_here (fun h => Bool.noConfusion (show false = true from h)) ?_
      repeat (first | refine o_mov rfl ?_)
      refine o_call rfl rfl (lookL_next (by decide) lookL_here) (fun h => Bool.noConfusion (show false = true from h)) ?_
      repeat (first | refine o_load rfl rfl ?_ | refine o_faddrv rfl rfl rfl ?_ | refine o_bslice rfl rfl ?_ | refine o_idxs rfl rfl (by omega) (by assumption) rfl ?_)
      refine o_append_ms [[.int .i64 (i : Nat)]] rfl rfl rfl (fun h => Nat.noConfusion h) rfl (by decide) rfl (by rw [List.length_map, progT_len, Nat.mul_one]) (by show k + 1 ≤ _; omega) ?_
      repeat (first | refine z_region rfl ?_ | refine o_nil ?_ | refine u_seq ?_ | refine u_blk ?_ | refine o_mov rfl ?_ | refine o_bin (op := .add) rfl rfl rfl ?_)
      rw [wrap_succ k (by omega)]
      exact u_round (show 2 ^ m - (k + 1) < 2 ^ m - k by omega) (sub_renw [(some (0, 2), (progT l m D (k + 1)).map (AV.int .i64))] [] rfl rfl rfl .nil (.cons (by rw [progT_succ, hpe, List.map_append]; rfl) (.keep (hasML_intl _)) .nil) (l' := [(1, .int .i64 (m : Nat)), (2, .vptr [.vs (cXs l)]), (6, vsI D), (8, .ms 0 0 1 0 (k + 1) none), (9, .int .i64 (k + 1 : Nat))]) (.cons rfl (.same rfl) (.cons rfl (.same rfl) (.cons rfl (.same rfl) (.cons rfl (.ms rfl) (.cons rfl (.same rfl) .nil)))))) ⟨k + 1, rfl, hlt, rfl⟩
    · have hk2 : k = 2 ^ m := by
        have : ¬ k < 2 ^ m := fun h => of_decide_eq_false h3 (Int.ofNat_lt.2 h)
        omega
      subst hk2
      repeat (first | refine o_nil ?_ | refine u_seq ?_ | refine z_cf rfl ?_ | refine z_exit ?_ | refine u_exit_seq ?_)
      refine u_out ?_
      repeat (first | refine z_seq ?_ | refine z_region rfl ?_ | refine o_nil ?_ | refine u_seq ?_ | refine z_ret ?_ | refine u_exit ?_ | refine o_mov rfl ?_)
      refine u_end ⟨.inr rfl, _, rfl, ?_⟩
      exact congrArg AV.tup (pair_eq (view_intN (d := 2) _ (progT_len ..) rfl) rfl)
  · rw [levV, if_neg hg] at p1
    rw [if_neg hg]
    refine o_call rfl rfl p1 (fun h => Bool.noConfusion (show false = true from h)) ?_
    repeat (first | refine z_seq ?_ | refine z_region rfl ?_ | refine o_nil ?_ | refine u_seq ?_ | refine o_mov rfl ?_ | refine o_extract rfl rfl ?_)
    refine o_cmp rfl rfl rfl (fun h => ?_) fun h => absurd (by simpa using h) hg
    repeat (first | refine z_seq ?_ | refine z_region rfl ?_ | refine o_nil ?_ | refine u_seq ?_ | refine z_ct rfl ?_ | refine z_ret ?_ | refine u_ret_seq ?_ | refine o_mov rfl ?_)
    exact u_end ⟨.inr rfl, _, rfl, rfl⟩

end Go.Proofs.Ytoiblgbaeglgoaa
