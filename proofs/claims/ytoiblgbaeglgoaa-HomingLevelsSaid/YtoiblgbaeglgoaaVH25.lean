/-
  THE PROGRAM OF STROKES: homing.Program.
-/
import Derived.Test.YtoiblgbaeglgoaaVH24
namespace Go.Proofs.Ytoiblgbaeglgoaa
open Go Go.Am

def progE (l : List Ex) (n : Nat) (D : List Int) (k : Nat) : Int := if D.getD k 0 < 0 then -2 else if D.getD k 0 = 0 then -1 else match (mv l n k).find? (down n D k) with
  | some i => (i : Int)
  | none => -1

def progT (l : List Ex) (n : Nat) (D : List Int) (k : Nat) : List Int := (List.range k).map (progE l n D)

theorem progT_len (l : List Ex) (n : Nat) (D : List Int) (k : Nat) : (progT l n D k).length = k := by unfold progT; rw [List.length_map, List.length_range]

theorem progT_succ (l : List Ex) (n : Nat) (D : List Int) (k : Nat) : progT l n D (k + 1) = progT l n D k ++ [progE l n D k] := by
  unfold progT
  rw [List.range_succ, List.map_append]
  rfl

def progV (l : List Ex) (n : Int) : AV := if guardC l n = 0 then .tup [vsI (progT l n.toNat (levL l n.toNat) (2 ^ n.toNat)), .int .i64 0] else .tup [vsI [], .int .i64 (guardC l n)]

theorem firstV_form {l : List Ex} {n k : Nat} {D : List Int} (h1 : 1 ≤ n) (h4 : n ≤ 4) (hD : LevW l n D) (hk : k < 2 ^ n) : ∃ (a : Int) (o b : Bool), firstV l n D k = .tup [.agg [.int .i64 a, .bool o], .bool b] ∧ (0 < D.getD k 0 → b = true ∧ progE l n D k = a) := by
  unfold firstV progE
  cases hf : (mv l n k).find? (down n D k) with
  | some i => exact ⟨(i : Nat), _, true, rfl, fun h => ⟨rfl, by rw [if_neg (by omega), if_neg (by omega)]⟩⟩
  | none =>
    refine ⟨0, false, false, rfl, fun h => ?_⟩
    obtain ⟨i, e, _⟩ := down_some h1 h4 hD hk h
    rw [hf] at e
    cases e

def b53_0 : IC := .seq (.region [⟨(some 25), .bin .lss (.t 24) (.t 23), none⟩] none)
  (.seq (.cond (.t 25) (.skip)
  (.exit 0))
  (.seq (.block 1 (.seq (.region [⟨(some 26), .mov (.t 24), none⟩,
    ⟨(some 27), .idxs 1 (.t 22) (.t 24), none⟩,
    ⟨(some 28), .load none (.t 27), none⟩,
    ⟨(some 9), .mov (.t 26), none⟩,
    ⟨(some 10), .mov (.t 28), none⟩] none)
  (.seq (.region [⟨(some 30), .load (some 1) (.t 2), none⟩,
    ⟨(some 31), .mov (.t 1), none⟩,
    ⟨(some 32), .mov (.t 9), none⟩,
    ⟨(some 33), .mov (.t 6), none⟩,
    ⟨(some 34), .call (.c (.fn 97 [] [])) [(.t 30), (.t 31), (.t 32), (.t 33)], none⟩,
    ⟨(some 29), .mov (.t 34), none⟩,
    ⟨(some 35), .extract (.t 29) 0, none⟩,
    ⟨(some 36), .extract (.t 29) 1, none⟩,
    ⟨(some 11), .alloc [.int .i64 0, .bool false], none⟩,
    ⟨none, .store 2 (.t 11) (.t 35), none⟩,
    ⟨(some 12), .mov (.t 36), none⟩] none)
  (.block 2 (.seq (.region [⟨(some 43), .mov (.t 10), none⟩,
    ⟨(some 44), .bin .lss (.t 43) (.c (.int .i64 0)), none⟩,
    ⟨(some 42), .mov (.t 44), none⟩] none)
  (.cond (.t 42) (.region [⟨(some 45), .mov (.t 8), none⟩,
    ⟨(some 46), .bslice 1 1 [.int .i64 0] [(0, 1, (.c (.int .i64 (-2))))], none⟩,
    ⟨(some 47), .append 1 8 [.int .i64 0] (.t 45) (.t 46), none⟩,
    ⟨(some 8), .mov (.t 47), none⟩] none)
  (.seq (.region [⟨(some 49), .mov (.t 10), none⟩,
    ⟨(some 50), .bin .eql (.t 49) (.c (.int .i64 0)), none⟩,
    ⟨(some 51), .mov (.t 50), none⟩,
    ⟨(some 52), .mov (.t 12), some (51, false)⟩,
    ⟨(some 53), .un .not (.t 52), some (51, false)⟩,
    ⟨(some 54), .pick (.t 51) (.c (.bool true)) (.t 53), none⟩,
    ⟨(some 48), .mov (.t 54), none⟩] none)
  (.cond (.t 48) (.region [⟨(some 55), .mov (.t 8), none⟩,
    ⟨(some 56), .bslice 1 1 [.int .i64 0] [(0, 1, (.c (.int .i64 (-1))))], none⟩,
    ⟨(some 57), .append 1 8 [.int .i64 0] (.t 55) (.t 56), none⟩,
    ⟨(some 8), .mov (.t 57), none⟩] none)
  (.region [⟨(some 37), .mov (.t 8), none⟩,
    ⟨(some 38), .faddr 0 (.t 11), none⟩,
    ⟨(some 39), .load none (.t 38), none⟩,
    ⟨(some 40), .bslice 1 1 [.int .i64 0] [(0, 1, (.t 39))], none⟩,
    ⟨(some 41), .append 1 8 [.int .i64 0] (.t 37) (.t 40), none⟩,
    ⟨(some 8), .mov (.t 41), none⟩] none)))))))))
  (.region [⟨(some 58), .bin .add (.t 24) (.c (.int .i64 1)), none⟩,
    ⟨(some 24), .mov (.t 58), none⟩] none)))

-- pneumatic/homing.Program
def ic53 : IC := .seq (.region [⟨(some 2), .box (.t 0), none⟩,
    ⟨(some 4), .mov (.c (.nils)), none⟩,
    ⟨(some 5), .mov (.c (.int .i64 0)), none⟩] none)
  (.seq (.region [⟨(some 14), .load (some 1) (.t 2), none⟩,
    ⟨(some 15), .mov (.t 1), none⟩,
    ⟨(some 16), .call (.c (.fn 42 [] [])) [(.t 14), (.t 15)], none⟩,
    ⟨(some 13), .mov (.t 16), none⟩,
    ⟨(some 17), .extract (.t 13) 0, none⟩,
    ⟨(some 18), .extract (.t 13) 1, none⟩,
    ⟨(some 6), .mov (.t 17), none⟩,
    ⟨(some 7), .mov (.t 18), none⟩] none)
  (.seq (.seq (.region [⟨(some 19), .mov (.t 7), none⟩,
    ⟨(some 20), .bin .neq (.t 19) (.c (.int .i64 0)), none⟩] none)
  (.cond (.t 20) (.seq (.region [⟨(some 21), .mov (.t 7), none⟩,
    ⟨(some 4), .mov (.c (.nils)), none⟩,
    ⟨(some 5), .mov (.t 21), none⟩] none)
  (.ret))
  (.skip)))
  (.seq (.region [⟨(some 8), .mov (.c (.nils)), none⟩] none)
  (.seq (.seq (.region [⟨(some 22), .mov (.t 6), none⟩,
    ⟨(some 23), .len false (.t 22), none⟩,
    ⟨(some 24), .mov (.c (.int .i64 0)), none⟩] none)
  (.block 0 (.loop b53_0)))
  (.seq (.region [⟨(some 59), .mov (.t 8), none⟩,
    ⟨(some 4), .mov (.t 59), none⟩,
    ⟨(some 5), .mov (.c (.int .i64 0)), none⟩] none)
  (.ret))))))
theorem fn53 : env0.fn 53 = some ⟨60, ic53, [.t 4, .t 5]⟩ := by kernel_rfl

set_option maxHeartbeats 8000000 in
theorem program53 (l : List Ex) (hsl : ∀ y ∈ l, Slim y) (n : Int) (h4 : guardC l n = 0 → n ≤ 4) : PF Try.prog 53 [.agg [.vs (cXs l)], .int .i64 n] (progV l n) := by
  have p1 := levels42 l hsl n h4
  refine PF_of_Z env0_ok fn53 [(0, .agg [.vs (cXs l)]), (1, .int .i64 n)] (by show 2 ≤ 60; decide) rfl fun w0 N0 => ?_
  unfold ic53 progV
  repeat (first | refine z_seq ?_ | refine z_region rfl ?_ | refine o_nil ?_ | refine u_seq ?_ | refine o_mov rfl ?_ | refine o_loadn rfl rfl rfl rfl ?_ | refine o_box rfl rfl ?_)
  by_cases hg : guardC l n = 0
  · rw [levV, if_pos hg] at p1
    rw [if_pos hg]
    obtain ⟨g1, g2, g3, g4⟩ := guardC_ok hg
    have h4 := h4 hg
    obtain ⟨m, rfl⟩ : ∃ m : Nat, n = (m : Int) := ⟨n.toNat, by omega⟩
    rw [Int.toNat_natCast] at p1 ⊢
    have h1 : 1 ≤ m := by omega
    have h4 : m ≤ 4 := by omega
    have hD := lev_any (l := l) h1 h4
    have hb := lev_bound h4 hD
    have hp4 := pow4 h4
    generalize levL l m = D at *
    have hDl : (D.map fun z => ([.int .i64 z] : List AV)).length = 2 ^ m := by rw [List.length_map, hD.len]
    refine o_call rfl rfl p1 (fun h => Bool.noConfusion (show false = true from h)) ?_
    repeat (first | refine z_seq ?_ | refine z_region rfl ?_ | refine o_nil ?_ | refine u_seq ?_ | refine z_block ?_ | refine z_skip ?_ | refine z_cf rfl ?_ | refine o_mov rfl ?_ | refine o_len rfl rfl ?_ | refine o_extract rfl rfl ?_ | refine o_cmpf rfl rfl rfl ?_)
    rw [hDl]
    refine z_loop (fun mm S => ∃ k, mm = 2 ^ m - k ∧ k ≤ 2 ^ m ∧ S = st 60 [(1, .int .i64 (m : Nat)), (2, .vptr [.vs (cXs l)]), (6, vsI D), (8, .ms 0 0 1 0 (k) none), (22, vsI D), (23, .int .i64 (2 ^ m : Nat)), (24, .int .i64 (k : Nat))] [(0, 0, .cells ((progT l m D k).map (AV.int .i64)))] 1 1) (2 ^ m)
      (sub_renw [(none, [])] [(0, 0, [.vs (cXs l)])] rfl rfl rfl (.cons rfl rfl .nil) (.new .nil) (l' := [(1, .int .i64 (m : Nat)), (2, .vptr [.vs (cXs l)]), (6, vsI D), (8, .ms 0 0 1 0 0 none), (22, vsI D), (23, .int .i64 (2 ^ m : Nat)), (24, .int .i64 ((0 : Nat) : Int))]) (.cons rfl (.same rfl) (.cons rfl (.fptr rfl rfl) (.cons rfl (.same rfl) (.cons rfl (.grow rfl) (.cons rfl (.same rfl) (.cons rfl (.same rfl) (.cons rfl (.same rfl) .nil)))))))) ⟨0, rfl, Nat.zero_le _, rfl⟩ ?_
    rintro mm S ⟨k, rfl, hk, rfl⟩
    unfold b53_0
    repeat (first | refine z_seq ?_ | refine z_region rfl ?_)
    refine o_cmp rfl rfl rfl (fun h3 => ?_) fun h3 => ?_
    · have hlt : k < 2 ^ m := Int.ofNat_lt.1 (of_decide_eq_true h3)
      have gk := vsI_getD (D := D) (k := k) (by rw [hD.len]; exact hlt)
      have h97 := first97 l hsl h1 h4 hg hlt D hD.len hb
      obtain ⟨a, o, b, hfv, hpos⟩ := firstV_form h1 h4 hD hlt
      rw [hfv] at h97
      repeat (first | refine z_seq ?_ | refine z_region rfl ?_ | refine o_nil ?_ | refine u_seq ?_ | refine z_block ?_ | refine z_skip ?_ | refine z_ct rfl ?_ | refine o_mov rfl ?_ | refine o_load rfl rfl ?_ | refine o_loadn rfl rfl rfl rfl ?_ | refine o_idxs rfl rfl (by omega) (by assumption) rfl ?_)
      refine o_call rfl rfl h97 (fun h => Bool.noConfusion (show false = true from h)) ?_
      repeat (first | refine z_seq ?_ | refine z_region rfl ?_ | refine o_nil ?_ | refine u_seq ?_ | refine z_block ?_ | refine o_mov rfl ?_ | refine o_store rfl rfl rfl rfl rfl rfl rfl ?_ | refine o_alloc ?_ | refine o_extract rfl rfl ?_)
      by_cases hneg : D.getD k 0 < 0
      · have hpe : progE l m D k = -2 := by unfold progE; rw [if_pos hneg]
        refine o_cmpt rfl rfl (by show some (AV.bool (decide (D.getD k 0 < 0))) = _; rw [decide_eq_true hneg]) ?_
        repeat (first | refine z_region rfl ?_ | refine o_nil ?_ | refine u_seq ?_ | refine z_ct rfl ?_ | refine o_mov rfl ?_)
        refine o_fsl [[.int .i64 (-2)]] rfl rfl rfl rfl ?_
        refine o_append_ms [[.int .i64 (-2)]] rfl rfl rfl (fun h => Nat.noConfusion h) rfl (by decide) rfl (by rw [List.length_map, progT_len, Nat.mul_one]) (by show k + 1 ≤ _; omega) ?_
        repeat (first | refine z_region rfl ?_ | refine o_nil ?_ | refine u_seq ?_ | refine u_blk ?_ | refine o_mov rfl ?_ | refine o_bin (op := .add) rfl rfl rfl ?_)
        rw [wrap_succ k (by omega)]
        exact u_round (show 2 ^ m - (k + 1) < 2 ^ m - k by omega) (sub_renw [(some (0, 2), (progT l m D (k + 1)).map (AV.int .i64))] [] rfl rfl rfl .nil (.cons (by rw [progT_succ, hpe, List.map_append]; rfl) (.keep (hasML_intl _)) .nil) (l' := [(1, .int .i64 (m : Nat)), (2, .vptr [.vs (cXs l)]), (6, vsI D), (8, .ms 0 0 1 0 (k + 1) none), (22, vsI D), (23, .int .i64 (2 ^ m : Nat)), (24, .int .i64 (k + 1 : Nat))]) (.cons rfl (.same rfl) (.cons rfl (.same rfl) (.cons rfl (.same rfl) (.cons rfl (.ms rfl) (.cons rfl (.same rfl) (.cons rfl (.same rfl) (.cons rfl (.same rfl) .nil)))))))) ⟨k + 1, rfl, hlt, rfl⟩
      refine o_cmpf rfl rfl (by show some (AV.bool (decide (D.getD k 0 < 0))) = _; rw [decide_eq_false hneg]) ?_
      repeat (first | refine z_seq ?_ | refine z_region rfl ?_ | refine o_nil ?_ | refine u_seq ?_ | refine z_cf rfl ?_ | refine o_mov rfl ?_)
      by_cases hz : D.getD k 0 = 0
      · have hpe : progE l m D k = -1 := by unfold progE; rw [if_neg hneg, if_pos hz]
        refine o_cmpt rfl rfl (by show some (AV.bool (D.getD k 0 == 0)) = _; rw [beq_iff_eq.2 hz]) ?_
        repeat (first | refine z_region rfl ?_ | refine o_nil ?_ | refine u_seq ?_ | refine z_ct rfl ?_ | refine o_gn rfl rfl ?_ | refine o_mov rfl ?_ | refine o_pickt rfl rfl ?_)
        refine o_fsl [[.int .i64 (-1)]] rfl rfl rfl rfl ?_
        refine o_append_ms [[.int .i64 (-1)]] rfl rfl rfl (fun h => Nat.noConfusion h) rfl (by decide) rfl (by rw [List.length_map, progT_len, Nat.mul_one]) (by show k + 1 ≤ _; omega) ?_
        repeat (first | refine z_region rfl ?_ | refine o_nil ?_ | refine u_seq ?_ | refine u_blk ?_ | refine o_mov rfl ?_ | refine o_bin (op := .add) rfl rfl rfl ?_)
        rw [wrap_succ k (by omega)]
        exact u_round (show 2 ^ m - (k + 1) < 2 ^ m - k by omega) (sub_renw [(some (0, 2), (progT l m D (k + 1)).map (AV.int .i64))] [] rfl rfl rfl .nil (.cons (by rw [progT_succ, hpe, List.map_append]; rfl) (.keep (hasML_intl _)) .nil) (l' := [(1, .int .i64 (m : Nat)), (2, .vptr [.vs (cXs l)]), (6, vsI D), (8, .ms 0 0 1 0 (k + 1) none), (22, vsI D), (23, .int .i64 (2 ^ m : Nat)), (24, .int .i64 (k + 1 : Nat))]) (.cons rfl (.same rfl) (.cons rfl (.same rfl) (.cons rfl (.same rfl) (.cons rfl (.ms rfl) (.cons rfl (.same rfl) (.cons rfl (.same rfl) (.cons rfl (.same rfl) .nil)))))))) ⟨k + 1, rfl, hlt, rfl⟩
      obtain ⟨rfl, hpe⟩ := hpos (by omega)
      refine o_cmpf rfl rfl (by show some (AV.bool (D.getD k 0 == 0)) = _; rw [beq_false_of_ne hz]) ?_
      repeat (first | refine z_region rfl ?_ | refine o_nil ?_ | refine u_seq ?_ | refine z_cf rfl ?_ | refine o_gy rfl ?_ | refine o_mov rfl ?_ | refine o_load rfl rfl ?_ | refine o_faddrm rfl ?_ | refine o_pickf rfl rfl ?_ | refine o_un rfl rfl ?_)
      refine o_fsl [[.int .i64 a]] rfl rfl rfl rfl ?_
      refine o_append_ms [[.int .i64 a]] rfl rfl rfl (fun h => Nat.noConfusion h) rfl (by decide) rfl (by rw [List.length_map, progT_len, Nat.mul_one]) (by show k + 1 ≤ _; omega) ?_
      repeat (first | refine z_region rfl ?_ | refine o_nil ?_ | refine u_seq ?_ | refine u_blk ?_ | refine o_mov rfl ?_ | refine o_bin (op := .add) rfl rfl rfl ?_)
      rw [wrap_succ k (by omega)]
      exact u_round (show 2 ^ m - (k + 1) < 2 ^ m - k by omega) (sub_renw [(some (0, 2), (progT l m D (k + 1)).map (AV.int .i64))] [] rfl rfl rfl .nil (.cons (by rw [progT_succ, hpe, List.map_append]; rfl) (.keep (hasML_intl _)) .nil) (l' := [(1, .int .i64 (m : Nat)), (2, .vptr [.vs (cXs l)]), (6, vsI D), (8, .ms 0 0 1 0 (k + 1) none), (22, vsI D), (23, .int .i64 (2 ^ m : Nat)), (24, .int .i64 (k + 1 : Nat))]) (.cons rfl (.same rfl) (.cons rfl (.same rfl) (.cons rfl (.same rfl) (.cons rfl (.ms rfl) (.cons rfl (.same rfl) (.cons rfl (.same rfl) (.cons rfl (.same rfl) .nil)))))))) ⟨k + 1, rfl, hlt, rfl⟩
    · have hk2 : k = 2 ^ m := by
        have : ¬ k < 2 ^ m := fun h => of_decide_eq_false h3 (Int.ofNat_lt.2 h)
        omega
      subst hk2
      repeat (first | refine z_seq ?_ | refine o_nil ?_ | refine u_seq ?_ | refine z_cf rfl ?_ | refine z_exit ?_ | refine u_exit_seq ?_)
      refine u_out ?_
      repeat (first | refine z_seq ?_ | refine z_region rfl ?_ | refine o_nil ?_ | refine u_seq ?_ | refine z_ret ?_ | refine u_exit ?_ | refine o_mov rfl ?_)
      refine u_end ⟨.inr rfl, _, rfl, ?_⟩
      exact congrArg AV.tup (pair_eq (view_intN (d := 2) _ (progT_len ..) rfl) rfl)
  · rw [levV, if_neg hg] at p1
    rw [if_neg hg]
    refine o_call rfl rfl p1 (fun h => Bool.noConfusion (show false = true from h)) ?_
    repeat (first | refine z_seq ?_ | refine z_region rfl ?_ | refine o_nil ?_ | refine u_seq ?_ | refine o_mov rfl ?_ | refine o_extract rfl rfl ?_)
    refine o_cmp rfl rfl rfl (fun h => ?_) fun h => absurd (by simpa using h) hg
    repeat (first | refine z_seq ?_ | refine z_region rfl ?_ | refine o_nil ?_ | refine u_seq ?_ | refine z_ct rfl ?_ | refine z_ret ?_ | refine u_ret_seq ?_ | refine o_mov rfl ?_)
    exact u_end ⟨.inr rfl, _, rfl, rfl⟩

end Go.Proofs.Ytoiblgbaeglgoaa
