/-
  LEVELS THAT PROVE THEMSELVES: homing.proves, homing.Verify.
-/
import Derived.Test.YtoiblgbaeglgoaaVH18
namespace Go.Proofs.Ytoiblgbaeglgoaa
open Go Go.Am

structure Prv (l : List Ex) (n : Nat) (D : List Int) (k : Nat) : Prop where
  shut : freeB l (posE (bitsE n k)) = false → D.getD k 0 = -1
  zero : freeB l (posE (bitsE n k)) = true → (D.getD k 0 = 0 ↔ k = 0)
  near : freeB l (posE (bitsE n k)) = true → ∀ i ∈ mv l n k, (D.getD (nxt n k i) 0 < 0 ↔ D.getD k 0 < 0) ∧ D.getD (nxt n k i) 0 - D.getD k 0 ≤ 1 ∧ D.getD k 0 - D.getD (nxt n k i) 0 ≤ 1
  low : freeB l (posE (bitsE n k)) = true → D.getD k 0 ≤ 0 ∨ ∃ i ∈ mv l n k, D.getD (nxt n k i) 0 = D.getD k 0 - 1

def lowB (n : Nat) (D : List Int) (k : Nat) (ms : List Nat) : Bool := decide (D.getD k 0 ≤ 0) || ms.any (down n D k)

def b110_0 : IC := .seq (.region [⟨(some 43), .bin .lss (.t 42) (.t 41), none⟩] none)
  (.seq (.cond (.t 43) (.skip)
  (.exit 0))
  (.seq (.block 1 (.seq (.region [⟨(some 44), .idxs 2 (.t 40) (.t 42), none⟩,
    ⟨(some 45), .load (some 2) (.t 44), none⟩,
    ⟨(some 11), .alloc [.int .i64 0, .bool false], none⟩,
    ⟨none, .store 2 (.t 11) (.t 45), none⟩] none)
  (.seq (.region [⟨(some 46), .mov (.t 3), none⟩,
    ⟨(some 47), .mov (.t 2), none⟩,
    ⟨(some 48), .faddr 0 (.t 11), none⟩,
    ⟨(some 49), .load none (.t 48), none⟩,
    ⟨(some 50), .bin .shl (.c (.int .i64 1)) (.t 49), none⟩,
    ⟨(some 51), .bin .xor (.t 47) (.t 50), none⟩,
    ⟨(some 52), .idxs 1 (.t 46) (.t 51), none⟩,
    ⟨(some 53), .load none (.t 52), none⟩,
    ⟨(some 12), .mov (.t 53), none⟩] none)
  (.seq (.seq (.region [⟨(some 54), .mov (.t 12), none⟩,
    ⟨(some 55), .bin .lss (.t 54) (.c (.int .i64 0)), none⟩,
    ⟨(some 56), .mov (.t 3), none⟩,
    ⟨(some 57), .mov (.t 2), none⟩,
    ⟨(some 58), .idxs 1 (.t 56) (.t 57), none⟩,
    ⟨(some 59), .load none (.t 58), none⟩,
    ⟨(some 60), .bin .lss (.t 59) (.c (.int .i64 0)), none⟩,
    ⟨(some 61), .eqb true (.t 55) (.t 60), none⟩,
    ⟨(some 62), .mov (.t 61), none⟩,
    ⟨(some 63), .mov (.t 12), some (62, false)⟩,
    ⟨(some 64), .mov (.t 3), some (62, false)⟩,
    ⟨(some 65), .mov (.t 2), some (62, false)⟩,
    ⟨(some 66), .idxs 1 (.t 64) (.t 65), some (62, false)⟩,
    ⟨(some 67), .load none (.t 66), some (62, false)⟩,
    ⟨(some 68), .bin .sub (.t 63) (.t 67), some (62, false)⟩,
    ⟨(some 69), .mov (.t 3), some (62, false)⟩,
    ⟨(some 70), .mov (.t 2), some (62, false)⟩,
    ⟨(some 71), .idxs 1 (.t 69) (.t 70), some (62, false)⟩,
    ⟨(some 72), .load none (.t 71), some (62, false)⟩,
    ⟨(some 73), .mov (.t 12), some (62, false)⟩,
    ⟨(some 74), .bin .sub (.t 72) (.t 73), some (62, false)⟩,
    ⟨(some 75), .minmax true [(.t 68), (.t 74)], some (62, false)⟩,
    ⟨(some 76), .bin .gtr (.t 75) (.c (.int .i64 1)), some (62, false)⟩,
    ⟨(some 77), .pick (.t 62) (.c (.bool true)) (.t 76), none⟩] (some [[], [0], [], [], [2, 3], [4], [5], [1, 6], [7], [8], [8], [8], [10, 11, 8], [12, 8], [9, 13, 8], [8], [8], [15, 16, 8], [17, 8], [8], [18, 19, 8], [14, 20, 8], [21, 8], [8, 22]]))
  (.cond (.t 77) (.seq (.region [⟨(some 8), .mov (.c (.bool false)), none⟩] none)
  (.ret))
  (.skip)))
  (.region [⟨(some 78), .mov (.t 9), none⟩,
    ⟨(some 79), .mov (.t 78), none⟩,
    ⟨(some 80), .mov (.t 12), some (79, false)⟩,
    ⟨(some 81), .mov (.t 3), some (79, false)⟩,
    ⟨(some 82), .mov (.t 2), some (79, false)⟩,
    ⟨(some 83), .idxs 1 (.t 81) (.t 82), some (79, false)⟩,
    ⟨(some 84), .load none (.t 83), some (79, false)⟩,
    ⟨(some 85), .bin .sub (.t 84) (.c (.int .i64 1)), some (79, false)⟩,
    ⟨(some 86), .bin .eql (.t 80) (.t 85), some (79, false)⟩,
    ⟨(some 87), .pick (.t 79) (.c (.bool true)) (.t 86), none⟩,
    ⟨(some 9), .mov (.t 87), none⟩] none)))))
  (.region [⟨(some 88), .bin .add (.t 42) (.c (.int .i64 1)), none⟩,
    ⟨(some 42), .mov (.t 88), none⟩] none)))

-- pneumatic/homing.proves
def ic110 : IC := .seq (.region [⟨(some 4), .box (.t 0), none⟩,
    ⟨(some 8), .mov (.c (.bool false)), none⟩] none)
  (.seq (.seq (.region [⟨(some 13), .load (some 1) (.t 4), none⟩,
    ⟨(some 14), .mov (.t 1), none⟩,
    ⟨(some 15), .mov (.t 2), none⟩,
    ⟨(some 16), .call (.c (.fn 95 [] [])) [(.t 14), (.t 15)], none⟩,
    ⟨(some 17), .call (.c (.fn 94 [] [])) [(.t 13), (.t 16)], none⟩,
    ⟨(some 18), .un .not (.t 17), none⟩] (some [[], [], [], [1, 2], [0, 3, 3], [4]]))
  (.cond (.t 18) (.seq (.region [⟨(some 19), .mov (.t 3), none⟩,
    ⟨(some 20), .mov (.t 2), none⟩,
    ⟨(some 21), .idxs 1 (.t 19) (.t 20), none⟩,
    ⟨(some 22), .load none (.t 21), none⟩,
    ⟨(some 23), .bin .eql (.t 22) (.c (.int .i64 (-1))), none⟩,
    ⟨(some 8), .mov (.t 23), none⟩] none)
  (.ret))
  (.skip)))
  (.seq (.seq (.region [⟨(some 24), .mov (.t 3), none⟩,
    ⟨(some 25), .mov (.t 2), none⟩,
    ⟨(some 26), .idxs 1 (.t 24) (.t 25), none⟩,
    ⟨(some 27), .load none (.t 26), none⟩,
    ⟨(some 28), .bin .eql (.t 27) (.c (.int .i64 0)), none⟩,
    ⟨(some 29), .mov (.t 2), none⟩,
    ⟨(some 30), .bin .eql (.t 29) (.c (.int .i64 0)), none⟩,
    ⟨(some 31), .eqb true (.t 28) (.t 30), none⟩] none)
  (.cond (.t 31) (.seq (.region [⟨(some 8), .mov (.c (.bool false)), none⟩] none)
  (.ret))
  (.skip)))
  (.seq (.region [⟨(some 32), .mov (.t 3), none⟩,
    ⟨(some 33), .mov (.t 2), none⟩,
    ⟨(some 34), .idxs 1 (.t 32) (.t 33), none⟩,
    ⟨(some 35), .load none (.t 34), none⟩,
    ⟨(some 36), .bin .leq (.t 35) (.c (.int .i64 0)), none⟩,
    ⟨(some 9), .mov (.t 36), none⟩] none)
  (.seq (.seq (.region [⟨(some 37), .load (some 1) (.t 4), none⟩,
    ⟨(some 38), .mov (.t 1), none⟩,
    ⟨(some 39), .mov (.t 2), none⟩,
    ⟨(some 40), .call (.c (.fn 101 [] [])) [(.t 37), (.t 38), (.t 39)], none⟩,
    ⟨(some 41), .len false (.t 40), none⟩,
    ⟨(some 42), .mov (.c (.int .i64 0)), none⟩] none)
  (.block 0 (.loop b110_0)))
  (.seq (.region [⟨(some 89), .mov (.t 9), none⟩,
    ⟨(some 8), .mov (.t 89), none⟩] none)
  (.ret))))))
theorem fn110 : env0.fn 110 = some ⟨90, ic110, [.t 8]⟩ := by kernel_rfl

set_option maxHeartbeats 8000000 in
theorem proves110 (l : List Ex) (hsl : ∀ y ∈ l, Slim y) {n k : Nat} (h1 : 1 ≤ n) (h4 : n ≤ 4) (hg : guardC l n = 0) (hk : k < 2 ^ n) (D : List Int) (hD : D.length = 2 ^ n) (hb : ∀ z, z < 2 ^ n → -1 ≤ D.getD z 0 ∧ D.getD z 0 ≤ 100) (hp : Prv l n D k) :
    PF Try.prog 110 [.agg [.vs (cXs l)], .int .i64 (n : Nat), .int .i64 (k : Nat), vsI D] (.bool true) := by
  have hbl := bitsE_len n k
  have hib := idx_bits h1 h4 hk
  have hpos := pos95 (e := bitsE n k) (by rw [hbl]; exact h1) (by rw [hbl]; exact h4)
  rw [hbl, hib] at hpos
  have hal := allowed94 l hsl (posE (bitsE n k)) (posC_pos (by rw [hbl]; exact hg))
  have hmv := moves101 l hsl (bitsE n k) (by rw [hbl]; exact h1) (by rw [hbl]; exact h4) (by rw [hbl]; exact hg)
  rw [hbl, hib, moves_mv] at hmv
  have hmv : PF Try.prog 101 [.agg [.vs (cXs l)], .int .i64 (n : Nat), .int .i64 (k : Nat)] (.vs (cSs ((mv l n k).map (skE n k)))) := hmv
  have hml : (cSs ((mv l n k).map (skE n k))).length = (mv l n k).length := by rw [cSs_length, List.length_map]
  have hmn : (mv l n k).length ≤ n := by
    have := List.length_filter_le (fun i => mayB l (bitsE n k) i) (List.range n)
    rwa [List.length_range] at this
  have gk := vsI_getD (D := D) (k := k) (by omega)
  have hbk := hb k hk
  refine PF_of_Z env0_ok fn110 [(0, .agg [.vs (cXs l)]), (1, .int .i64 (n : Nat)), (2, .int .i64 (k : Nat)), (3, vsI D)] (by show 4 ≤ 90; decide) rfl fun w0 N0 => ?_
  unfold ic110
  repeat (first | refine z_seq ?_ | refine z_region rfl ?_ | refine o_nil ?_ | refine u_seq ?_ | refine o_mov rfl ?_ | refine o_box rfl rfl ?_)
  refine z_drawn env0_ok [(95, [.int .i64 (n : Nat), .int .i64 (k : Nat)], vsI (posE (bitsE n k))), (94, [.agg [.vs (cXs l)], vsI (posE (bitsE n k))], .bool (freeB l (posE (bitsE n k))))] (fun x hx => by
    rcases List.mem_cons.1 hx with rfl | hx
    · exact hpos
    obtain rfl := List.mem_singleton.1 hx
    exact hal) (fun f => Nat.beq f 95 || Nat.beq f 94) rfl rfl rfl ?_
  repeat (first | refine o_mov rfl ?_ | refine o_loadn rfl rfl rfl rfl ?_)
  refine o_call rfl rfl lookL_here (fun h => Bool.noConfusion (show false = true from h)) ?_
  refine o_call rfl rfl (lookL_next (by decide) lookL_here) (fun h => Bool.noConfusion (show false = true from h)) ?_
  cases hf : freeB l (posE (bitsE n k)) with
  | false =>
    have hs := hp.shut hf
    repeat (first | refine z_seq ?_ | refine z_region rfl ?_ | refine o_nil ?_ | refine u_seq ?_ | refine z_ct rfl ?_ | refine o_mov rfl ?_ | refine o_load rfl rfl ?_ | refine o_un rfl rfl ?_ | refine o_idxs rfl rfl (by omega) (by assumption) rfl ?_)
    rw [hs]
    repeat (first | refine o_nil ?_ | refine u_seq ?_ | refine z_ret ?_ | refine u_ret_seq ?_ | refine o_mov rfl ?_ | refine o_cmpt rfl rfl rfl ?_)
    exact u_end ⟨.inr rfl, _, rfl, rfl⟩
  | true =>
    have hz := hp.zero hf
    have hnr := hp.near hf
    have hlw := hp.low hf
    repeat (first | refine z_seq ?_ | refine z_region rfl ?_ | refine o_nil ?_ | refine u_seq ?_ | refine z_skip ?_ | refine z_cf rfl ?_ | refine o_mov rfl ?_ | refine o_load rfl rfl ?_ | refine o_un rfl rfl ?_ | refine o_idxs rfl rfl (by omega) (by assumption) rfl ?_)
    refine o_bin (op := .eql) rfl rfl rfl ?_
    repeat (first | refine o_mov rfl ?_)
    refine o_bin (op := .eql) rfl rfl rfl ?_
    have hab : (D.getD k 0 == 0) = (((k : Nat) : Int) == 0) := by
      rw [Bool.eq_iff_iff, beq_iff_eq, beq_iff_eq, hz]
      omega
    rw [hab]
    refine o_eqb rfl rfl (fun h => absurd h (by simp)) fun _ => ?_
    repeat (first | refine z_seq ?_ | refine z_region rfl ?_ | refine o_nil ?_ | refine u_seq ?_ | refine z_skip ?_ | refine z_cf rfl ?_ | refine o_mov rfl ?_ | refine o_load rfl rfl ?_ | refine o_idxs rfl rfl (by omega) (by assumption) rfl ?_)
    refine o_bin (op := .leq) rfl rfl rfl ?_
    repeat (first | refine z_seq ?_ | refine z_region rfl ?_ | refine o_nil ?_ | refine u_seq ?_ | refine o_mov rfl ?_ | refine o_loadn rfl rfl rfl rfl ?_)
    refine o_call rfl rfl hmv (fun h => Bool.noConfusion (show false = true from h)) ?_
    repeat (first | refine o_nil ?_ | refine u_seq ?_ | refine z_block ?_ | refine o_mov rfl ?_ | refine o_len rfl rfl ?_)
    rw [hml]
    refine z_loop (fun mm S => ∃ j, mm = (mv l n k).length - j ∧ j ≤ (mv l n k).length ∧ S = st 90 [(2, .int .i64 (k : Nat)), (3, vsI D), (9, .bool (lowB n D k ((mv l n k).take j))), (40, .vs (cSs ((mv l n k).map (skE n k)))), (41, .int .i64 ((mv l n k).length : Nat)), (42, .int .i64 (j : Nat))] [] 0 1) (mv l n k).length
      (sub_ren0 (l' := [(2, .int .i64 (k : Nat)), (3, vsI D), (9, .bool (decide (D.getD k 0 ≤ 0))), (40, .vs (cSs ((mv l n k).map (skE n k)))), (41, .int .i64 ((mv l n k).length : Nat)), (42, .int .i64 ((0 : Nat) : Int))]) (.cons rfl (.same rfl) (.cons rfl (.same rfl) (.cons rfl (.same rfl) (.cons rfl (.same rfl) (.cons rfl (.same rfl) (.cons rfl (.same rfl) .nil))))))) ⟨0, rfl, Nat.zero_le _, by unfold lowB; rw [List.take_zero, List.any_nil, Bool.or_false]⟩ ?_
    rintro mm S ⟨j, rfl, hj, rfl⟩
    unfold b110_0
    repeat (first | refine z_seq ?_ | refine z_region rfl ?_)
    refine o_cmp rfl rfl rfl (fun h3 => ?_) fun h3 => ?_
    · have hlt : j < (mv l n k).length := by have := of_decide_eq_true h3; omega
      have hmem := List.getElem_mem hlt
      have hge := cSs_get (l := (mv l n k).map (skE n k)) (i := j) (by rw [List.length_map]; exact hlt)
      rw [List.getElem_map] at hge
      have htk : (mv l n k).take (j + 1) = (mv l n k).take j ++ [(mv l n k)[j]] := by rw [List.take_add_one, List.getElem?_eq_getElem hlt]; rfl
      generalize (mv l n k)[j] = x at hmem hge htk
      have hxn := mv_lt hmem
      have hge : (cSs ((mv l n k).map (skE n k)))[((j : Nat) : Int).toNat]? = some [.int .i64 (x : Nat), .bool (!((bitsE n k).getD x false))] := hge
      have hx := xorE (e := bitsE n k) (by rw [hbl]; exact h1) (by rw [hbl]; exact h4) (by rw [hbl]; exact hxn)
      rw [hib, show idxE (flipE (bitsE n k) x) = nxt n k x from rfl] at hx
      have hy := nxt_lt (k := k) (i := x) h1 h4
      have gy := vsI_getD (D := D) (k := nxt n k x) (by omega)
      have hby := hb _ hy
      obtain ⟨n1, n2, n3⟩ := hnr x hmem
      have hlb : lowB n D k ((mv l n k).take (j + 1)) = (lowB n D k ((mv l n k).take j) || down n D k x) := by
        unfold lowB
        rw [htk, List.any_append, List.any_cons, List.any_nil, Bool.or_false, Bool.or_assoc]
      have hdec : decide (D.getD (nxt n k x) 0 < 0) = decide (D.getD k 0 < 0) := by rw [decide_eq_decide]; exact n1
      have hmx : ¬ ((if D.getD k 0 - D.getD (nxt n k x) 0 > D.getD (nxt n k x) 0 - D.getD k 0 then D.getD k 0 - D.getD (nxt n k x) 0 else D.getD (nxt n k x) 0 - D.getD k 0) > 1) := by split <;> omega
      repeat (first | refine z_seq ?_ | refine z_region rfl ?_ | refine o_nil ?_ | refine u_seq ?_ | refine z_block ?_ | refine z_skip ?_ | refine z_ct rfl ?_ | refine o_mov rfl ?_ | refine o_load rfl rfl ?_ | refine o_loadn rfl rfl rfl rfl ?_ | refine o_store rfl rfl rfl rfl rfl rfl rfl ?_ | refine o_faddrm rfl ?_ | refine o_alloc ?_ | refine o_idxs rfl rfl (by omega) (by assumption) rfl ?_)
      refine o_bin (op := .shl) rfl rfl (shl1 (show x < 4 by omega)) ?_
      refine o_bin (op := .xor) rfl rfl hx ?_
      repeat (first | refine z_seq ?_ | refine o_nil ?_ | refine u_seq ?_ | refine o_mov rfl ?_ | refine o_load rfl rfl ?_ | refine z_drawn0 env0_ok rfl rfl rfl ?_ | refine o_idxs rfl rfl (by omega) (by assumption) rfl ?_)
      refine o_bin (op := .lss) rfl rfl rfl ?_
      repeat (first | refine o_mov rfl ?_ | refine o_load rfl rfl ?_ | refine o_idxs rfl rfl (by omega) (by assumption) rfl ?_)
      refine o_bin (op := .lss) rfl rfl rfl ?_
      rw [hdec]
      refine o_eqb rfl rfl (fun h => absurd h (by simp)) fun _ => ?_
      repeat (first | refine o_gy rfl ?_ | refine o_mov rfl ?_ | refine o_load rfl rfl ?_ | refine o_minmax2 rfl rfl rfl ?_ | refine o_bin (op := .sub) rfl rfl rfl ?_ | refine o_idxs rfl rfl (by omega) (by assumption) rfl ?_)
      rw [wrap_in _ (by omega) (by omega), wrap_in _ (by omega) (by omega)]
      refine o_cmpf rfl rfl (by show some (AV.bool (decide _)) = _; rw [if_pos (rfl : true = true), decide_eq_false hmx]) ?_
      repeat (first | refine z_region rfl ?_ | refine o_nil ?_ | refine u_seq ?_ | refine z_skip ?_ | refine z_cf rfl ?_ | refine o_mov rfl ?_ | refine o_pickf rfl rfl ?_)
      cases hlb2 : lowB n D k ((mv l n k).take j) with
      | true =>
        rw [hlb2, Bool.true_or] at hlb
        repeat (first | refine z_region rfl ?_ | refine o_nil ?_ | refine u_seq ?_ | refine u_blk ?_ | refine o_gn rfl rfl ?_ | refine o_mov rfl ?_ | refine o_pickt rfl rfl ?_ | refine o_bin (op := .add) rfl rfl rfl ?_)
        rw [wrap_succ j (by omega)]
        exact u_round (show (mv l n k).length - (j + 1) < (mv l n k).length - j by omega) (sub_ren0 (l' := [(2, .int .i64 (k : Nat)), (3, vsI D), (9, .bool true), (40, .vs (cSs ((mv l n k).map (skE n k)))), (41, .int .i64 ((mv l n k).length : Nat)), (42, .int .i64 ((j + 1 : Nat) : Int))]) (.cons rfl (.same rfl) (.cons rfl (.same rfl) (.cons rfl (.same rfl) (.cons rfl (.same rfl) (.cons rfl (.same rfl) (.cons rfl (.same rfl) .nil))))))) ⟨j + 1, rfl, hlt, by rw [hlb]⟩
      | false =>
        rw [hlb2, Bool.false_or] at hlb
        repeat (first | refine o_gy rfl ?_ | refine o_mov rfl ?_ | refine o_load rfl rfl ?_ | refine o_bin (op := .sub) rfl rfl rfl ?_ | refine o_idxs rfl rfl (by omega) (by assumption) rfl ?_)
        rw [wrap_in _ (by omega) (by omega)]
        refine o_bin (op := .eql) rfl rfl rfl ?_
        rw [show (D.getD (nxt n k x) 0 == D.getD k 0 - 1) = down n D k x from rfl]
        repeat (first | refine z_region rfl ?_ | refine o_nil ?_ | refine u_seq ?_ | refine u_blk ?_ | refine o_mov rfl ?_ | refine o_pickf rfl rfl ?_ | refine o_bin (op := .add) rfl rfl rfl ?_)
        rw [wrap_succ j (by omega)]
        exact u_round (show (mv l n k).length - (j + 1) < (mv l n k).length - j by omega) (sub_ren0 (l' := [(2, .int .i64 (k : Nat)), (3, vsI D), (9, .bool (down n D k x)), (40, .vs (cSs ((mv l n k).map (skE n k)))), (41, .int .i64 ((mv l n k).length : Nat)), (42, .int .i64 ((j + 1 : Nat) : Int))]) (.cons rfl (.same rfl) (.cons rfl (.same rfl) (.cons rfl (.same rfl) (.cons rfl (.same rfl) (.cons rfl (.same rfl) (.cons rfl (.same rfl) .nil))))))) ⟨j + 1, rfl, hlt, by rw [hlb]⟩
    · have hj2 : j = (mv l n k).length := by have := of_decide_eq_false h3; omega
      subst hj2
      have hlt : lowB n D k ((mv l n k).take (mv l n k).length) = true := by
        rw [List.take_length]
        unfold lowB
        rcases hlw with h | ⟨i, hi, h⟩
        · rw [decide_eq_true h, Bool.true_or]
        · rw [Bool.or_eq_true]
          exact .inr (List.any_eq_true.2 ⟨i, hi, beq_iff_eq.2 h⟩)
      rw [hlt]
      repeat (first | refine z_seq ?_ | refine o_nil ?_ | refine u_seq ?_ | refine z_cf rfl ?_ | refine z_exit ?_ | refine u_exit_seq ?_)
      refine u_out ?_
      repeat (first | refine z_seq ?_ | refine z_region rfl ?_ | refine o_nil ?_ | refine u_seq ?_ | refine z_ret ?_ | refine u_exit ?_ | refine o_mov rfl ?_)
      exact u_end ⟨.inr rfl, _, rfl, rfl⟩

-- pneumatic/homing.Verify$1
def ic109 : IC := .seq (.region [⟨(some 3), .mov (.c (.bool false)), none⟩] none)
  (.seq (.region [⟨(some 4), .mov (.t 0), none⟩,
    ⟨(some 5), .bin .lss (.t 4) (.c (.int .i64 (-1))), none⟩,
    ⟨(some 6), .mov (.t 5), none⟩,
    ⟨(some 7), .mov (.t 0), some (6, false)⟩,
    ⟨(some 8), .load none (.t 1), some (6, false)⟩,
    ⟨(some 9), .bin .shl (.c (.int .i64 1)) (.t 8), some (6, false)⟩,
    ⟨(some 10), .bin .geq (.t 7) (.t 9), some (6, false)⟩,
    ⟨(some 11), .pick (.t 6) (.c (.bool true)) (.t 10), none⟩,
    ⟨(some 3), .mov (.t 11), none⟩] none)
  (.ret))
theorem fn109 : env0.fn 109 = some ⟨12, ic109, [.t 3]⟩ := by kernel_rfl

def outB (n : Nat) (v : Int) : Bool := decide (v < -1) || decide (v ≥ ((2 ^ n : Nat) : Int))

theorem out109 {n : Nat} (h4 : n ≤ 4) (v : Int) : PF Try.prog 109 [.int .i64 v, .vptr [.int .i64 (n : Nat)]] (.bool (outB n v)) := by
  refine PF_of_Z env0_ok fn109 [(0, .int .i64 v), (1, .vptr [.int .i64 (n : Nat)])] (by show 2 ≤ 12; decide) rfl fun w0 N0 => ?_
  unfold ic109 outB
  repeat (first | refine z_seq ?_ | refine z_region rfl ?_ | refine o_nil ?_ | refine u_seq ?_ | refine o_mov rfl ?_)
  refine o_cmp rfl rfl rfl (fun h => ?_) fun h => ?_
  · rw [h]
    repeat (first | refine o_nil ?_ | refine u_seq ?_ | refine z_ret ?_ | refine o_gn rfl rfl ?_ | refine o_mov rfl ?_ | refine o_pickt rfl rfl ?_)
    exact u_end ⟨.inr rfl, _, rfl, rfl⟩
  · rw [h]
    repeat (first | refine o_gy rfl ?_ | refine o_mov rfl ?_ | refine o_load rfl rfl ?_)
    refine o_bin (op := .shl) rfl rfl (shl4 h4) ?_
    repeat (first | refine o_gy rfl ?_)
    refine o_bin (op := .geq) rfl rfl rfl ?_
    repeat (first | refine o_nil ?_ | refine u_seq ?_ | refine z_ret ?_ | refine o_mov rfl ?_ | refine o_pickf rfl rfl ?_)
    exact u_end ⟨.inr rfl, _, rfl, rfl⟩

def b145_0 : IC := .seq (.region [⟨(some 9), .bin .lss (.t 8) (.t 7), none⟩] none)
  (.seq (.cond (.t 9) (.skip)
  (.exit 0))
  (.seq (.block 1 (.seq (.region [⟨(some 10), .mov (.t 8), none⟩,
    ⟨(some 5), .mov (.t 10), none⟩] none)
  (.seq (.region [⟨(some 11), .mov (.t 1), none⟩,
    ⟨(some 12), .mov (.t 0), none⟩,
    ⟨(some 13), .mov (.t 5), none⟩,
    ⟨(some 14), .idxs 1 (.t 12) (.t 13), none⟩,
    ⟨(some 15), .load none (.t 14), none⟩,
    ⟨(some 16), .call (.t 11) [(.t 15)], none⟩] none)
  (.cond (.t 16) (.seq (.region [⟨(some 17), .mov (.t 5), none⟩,
    ⟨(some 4), .mov (.t 17), none⟩] none)
  (.ret))
  (.skip)))))
  (.region [⟨(some 18), .bin .add (.t 8) (.c (.int .i64 1)), none⟩,
    ⟨(some 8), .mov (.t 18), none⟩] none)))

-- slices.IndexFunc[[]int,int]
def ic145 : IC := .seq (.region [⟨(some 4), .mov (.c (.int .i64 0)), none⟩] none)
  (.seq (.seq (.region [⟨(some 6), .mov (.t 0), none⟩,
    ⟨(some 7), .len false (.t 6), none⟩,
    ⟨(some 8), .mov (.c (.int .i64 0)), none⟩] none)
  (.block 0 (.loop b145_0)))
  (.seq (.region [⟨(some 4), .mov (.c (.int .i64 (-1))), none⟩] none)
  (.ret)))
theorem fn145 : env0.fn 145 = some ⟨19, ic145, [.t 4]⟩ := by kernel_rfl

theorem none145 {n : Nat} (h4 : n ≤ 4) (D : List Int) (hl : D.length ≤ 100000) (ho : ∀ z, z < D.length → outB n (D.getD z 0) = false) : PF Try.prog 145 [vsI D, .fn 109 [] [.vptr [.int .i64 (n : Nat)]]] (.int .i64 (-1)) := by
  have hdl : (D.map fun z => ([.int .i64 z] : List AV)).length = D.length := List.length_map ..
  refine PF_of_Z env0_ok fn145 [(0, vsI D), (1, .fn 109 [] [.vptr [.int .i64 (n : Nat)]])] (by show 2 ≤ 19; decide) rfl fun w0 N0 => ?_
  unfold ic145
  repeat (first | refine z_seq ?_ | refine z_region rfl ?_ | refine o_nil ?_ | refine u_seq ?_ | refine z_block ?_ | refine o_mov rfl ?_ | refine o_len rfl rfl ?_)
  rw [hdl]
  refine z_loop (fun mm S => ∃ j, mm = D.length - j ∧ j ≤ D.length ∧ S = st 19 [(0, vsI D), (1, .fn 109 [] [.vptr [.int .i64 (n : Nat)]]), (7, .int .i64 (D.length : Nat)), (8, .int .i64 (j : Nat))] [] 0 1) D.length
    (sub_ren0 (.cons rfl (.same rfl) (.cons rfl (.same rfl) (.cons rfl (.same rfl) (.cons rfl (.same rfl) .nil))))) ⟨0, rfl, Nat.zero_le _, rfl⟩ ?_
  rintro mm S ⟨j, rfl, hj, rfl⟩
  unfold b145_0
  repeat (first | refine z_seq ?_ | refine z_region rfl ?_)
  refine o_cmp rfl rfl rfl (fun h3 => ?_) fun h3 => ?_
  · have hlt : j < D.length := by have := of_decide_eq_true h3; omega
    have gj := vsI_getD (D := D) hlt
    have h109 := out109 h4 (D.getD j 0)
    rw [ho j hlt] at h109
    repeat (first | refine z_seq ?_ | refine z_region rfl ?_ | refine o_nil ?_ | refine u_seq ?_ | refine z_block ?_ | refine z_skip ?_ | refine z_ct rfl ?_ | refine o_mov rfl ?_ | refine o_load rfl rfl ?_ | refine o_idxs rfl rfl (by omega) (by assumption) rfl ?_)
    refine o_callv rfl rfl rfl h109 (fun h => Bool.noConfusion (show false = true from h)) ?_
    repeat (first | refine z_region rfl ?_ | refine o_nil ?_ | refine u_seq ?_ | refine u_blk ?_ | refine z_skip ?_ | refine z_cf rfl ?_ | refine o_mov rfl ?_ | refine o_bin (op := .add) rfl rfl rfl ?_)
    rw [wrap_succ j (by omega)]
    exact u_round (show D.length - (j + 1) < D.length - j by omega) (sub_ren0 (.cons rfl (.same rfl) (.cons rfl (.same rfl) (.cons rfl (.same rfl) (.cons rfl (.same rfl) .nil))))) ⟨j + 1, rfl, hlt, rfl⟩
  · repeat (first | refine z_seq ?_ | refine o_nil ?_ | refine u_seq ?_ | refine z_cf rfl ?_ | refine z_exit ?_ | refine u_exit_seq ?_)
    refine u_out ?_
    repeat (first | refine z_seq ?_ | refine z_region rfl ?_ | refine o_nil ?_ | refine u_seq ?_ | refine z_ret ?_ | refine u_exit ?_ | refine o_mov rfl ?_)
    exact u_end ⟨.inr rfl, _, rfl, rfl⟩

-- slices.ContainsFunc[[]int,int]
def ic108 : IC := .seq (.region [⟨(some 4), .mov (.c (.bool false)), none⟩] none)
  (.seq (.region [⟨(some 5), .mov (.t 0), none⟩,
    ⟨(some 6), .mov (.t 1), none⟩,
    ⟨(some 7), .call (.c (.fn 145 [] [])) [(.t 5), (.t 6)], none⟩,
    ⟨(some 8), .bin .geq (.t 7) (.c (.int .i64 0)), none⟩,
    ⟨(some 4), .mov (.t 8), none⟩] none)
  (.ret))
theorem fn108 : env0.fn 108 = some ⟨9, ic108, [.t 4]⟩ := by kernel_rfl

theorem none108 {n : Nat} (h4 : n ≤ 4) (D : List Int) (hl : D.length ≤ 100000) (ho : ∀ z, z < D.length → outB n (D.getD z 0) = false) : PF Try.prog 108 [vsI D, .fn 109 [] [.vptr [.int .i64 (n : Nat)]]] (.bool false) := by
  have h := none145 h4 D hl ho
  refine PF_of_Z env0_ok fn108 [(0, vsI D), (1, .fn 109 [] [.vptr [.int .i64 (n : Nat)]])] (by show 2 ≤ 9; decide) rfl fun w0 N0 => ?_
  unfold ic108
  repeat (first | refine z_seq ?_ | refine z_region rfl ?_ | refine o_nil ?_ | refine u_seq ?_ | refine o_mov rfl ?_)
  refine o_call rfl rfl h (fun h => Bool.noConfusion (show false = true from h)) ?_
  repeat (first | refine o_nil ?_ | refine u_seq ?_ | refine z_ret ?_ | refine o_mov rfl ?_ | refine o_cmpf rfl rfl rfl ?_)
  exact u_end ⟨.inr rfl, _, rfl, rfl⟩

def b60_0 : IC := .seq (.region [⟨(some 26), .bin .lss (.t 25) (.t 24), none⟩] none)
  (.seq (.cond (.t 26) (.skip)
  (.exit 0))
  (.seq (.block 1 (.seq (.region [⟨(some 27), .mov (.t 25), none⟩,
    ⟨(some 8), .mov (.t 27), none⟩] none)
  (.seq (.region [⟨(some 28), .load (some 1) (.t 3), none⟩,
    ⟨(some 29), .load none (.t 4), none⟩,
    ⟨(some 30), .mov (.t 8), none⟩,
    ⟨(some 31), .mov (.t 2), none⟩,
    ⟨(some 32), .call (.c (.fn 110 [] [])) [(.t 28), (.t 29), (.t 30), (.t 31)], none⟩,
    ⟨(some 33), .un .not (.t 32), none⟩] none)
  (.cond (.t 33) (.seq (.region [⟨(some 6), .mov (.c (.int .i64 15)), none⟩] none)
  (.ret))
  (.skip)))))
  (.region [⟨(some 34), .bin .add (.t 25) (.c (.int .i64 1)), none⟩,
    ⟨(some 25), .mov (.t 34), none⟩] none)))

-- pneumatic/homing.Verify
def ic60 : IC := .seq (.region [⟨(some 3), .box (.t 0), none⟩,
    ⟨(some 4), .box (.t 1), none⟩,
    ⟨(some 6), .mov (.c (.int .i64 0)), none⟩] none)
  (.seq (.seq (.region [⟨(some 9), .load (some 1) (.t 3), none⟩,
    ⟨(some 10), .load none (.t 4), none⟩,
    ⟨(some 11), .call (.c (.fn 80 [] [])) [(.t 9), (.t 10)], none⟩,
    ⟨(some 7), .mov (.t 11), none⟩] none)
  (.seq (.region [⟨(some 12), .mov (.t 7), none⟩,
    ⟨(some 13), .bin .neq (.t 12) (.c (.int .i64 0)), none⟩] none)
  (.cond (.t 13) (.seq (.region [⟨(some 14), .mov (.t 7), none⟩,
    ⟨(some 6), .mov (.t 14), none⟩] none)
  (.ret))
  (.skip))))
  (.seq (.seq (.region [⟨(some 15), .mov (.t 2), none⟩,
    ⟨(some 16), .len false (.t 15), none⟩,
    ⟨(some 17), .load none (.t 4), none⟩,
    ⟨(some 18), .bin .shl (.c (.int .i64 1)) (.t 17), none⟩,
    ⟨(some 19), .bin .neq (.t 16) (.t 18), none⟩] none)
  (.cond (.t 19) (.seq (.region [⟨(some 6), .mov (.c (.int .i64 8)), none⟩] none)
  (.ret))
  (.skip)))
  (.seq (.seq (.region [⟨(some 20), .mov (.t 2), none⟩,
    ⟨(some 21), .mkfn 109 [] [(.t 4)], none⟩,
    ⟨(some 22), .call (.c (.fn 108 [] [])) [(.t 20), (.t 21)], none⟩] none)
  (.cond (.t 22) (.seq (.region [⟨(some 6), .mov (.c (.int .i64 2)), none⟩] none)
  (.ret))
  (.skip)))
  (.seq (.seq (.region [⟨(some 23), .mov (.t 2), none⟩,
    ⟨(some 24), .len false (.t 23), none⟩,
    ⟨(some 25), .mov (.c (.int .i64 0)), none⟩] none)
  (.block 0 (.loop b60_0)))
  (.seq (.region [⟨(some 6), .mov (.c (.int .i64 0)), none⟩] none)
  (.ret))))))
theorem fn60 : env0.fn 60 = some ⟨35, ic60, [.t 6]⟩ := by kernel_rfl

set_option maxHeartbeats 4000000 in
theorem verify60 (l : List Ex) (hsl : ∀ y ∈ l, Slim y) {n : Nat} (h1 : 1 ≤ n) (h4 : n ≤ 4) (hg : guardC l n = 0) (D : List Int) (hD : D.length = 2 ^ n) (hb : ∀ z, z < 2 ^ n → -1 ≤ D.getD z 0 ∧ D.getD z 0 < ((2 ^ n : Nat) : Int)) (hp : ∀ k, k < 2 ^ n → Prv l n D k) :
    PF Try.prog 60 [.agg [.vs (cXs l)], .int .i64 (n : Nat), vsI D] (.int .i64 0) := by
  have h28 := gcheck28 l hsl n
  rw [hg] at h28
  have hp4 := pow4 h4
  have hdl : (D.map fun z => ([.int .i64 z] : List AV)).length = D.length := List.length_map ..
  have h108 := none108 h4 D (by omega) fun z hz => by
    have := hb z (by omega)
    unfold outB
    rw [decide_eq_false (by omega), decide_eq_false (by omega)]
    rfl
  refine PF_of_Z env0_ok fn60 [(0, .agg [.vs (cXs l)]), (1, .int .i64 (n : Nat)), (2, vsI D)] (by show 3 ≤ 35; decide) rfl fun w0 N0 => ?_
  unfold ic60
  repeat (first | refine z_seq ?_ | refine z_region rfl ?_ | refine o_nil ?_ | refine u_seq ?_ | refine o_mov rfl ?_ | refine o_load rfl rfl ?_ | refine o_loadn rfl rfl rfl rfl ?_ | refine o_box rfl rfl ?_)
  refine o_call rfl rfl h28 (fun h => Bool.noConfusion (show false = true from h)) ?_
  repeat (first | refine z_seq ?_ | refine z_region rfl ?_ | refine o_nil ?_ | refine u_seq ?_ | refine z_skip ?_ | refine z_cf rfl ?_ | refine o_mov rfl ?_ | refine o_load rfl rfl ?_ | refine o_len rfl rfl ?_ | refine o_cmpf rfl rfl rfl ?_)
  rw [hdl, hD]
  refine o_bin (op := .shl) rfl rfl (shl4 h4) ?_
  refine o_cmp rfl rfl rfl (fun h => absurd h (by simp)) fun _ => ?_
  repeat (first | refine z_seq ?_ | refine z_region rfl ?_ | refine o_nil ?_ | refine u_seq ?_ | refine z_skip ?_ | refine z_cf rfl ?_ | refine o_mov rfl ?_ | refine o_mkfn rfl rfl ?_)
  refine o_call rfl rfl h108 (fun _ => rfl) ?_
  repeat (first | refine z_seq ?_ | refine z_region rfl ?_ | refine o_nil ?_ | refine u_seq ?_ | refine z_block ?_ | refine z_skip ?_ | refine z_cf rfl ?_ | refine o_mov rfl ?_ | refine o_len rfl rfl ?_)
  rw [hdl, hD]
  refine z_loop (fun mm S => ∃ k, mm = 2 ^ n - k ∧ k ≤ 2 ^ n ∧ S = st 35 [(2, vsI D), (3, .vptr [.vs (cXs l)]), (4, .vptr [.int .i64 (n : Nat)]), (24, .int .i64 (2 ^ n : Nat)), (25, .int .i64 (k : Nat))] [] 0 1) (2 ^ n)
    (sub_renw [] [(0, 0, [.vs (cXs l)]), (1, 1, [.int .i64 (n : Nat)])] rfl rfl rfl (.cons rfl rfl (.cons rfl rfl .nil)) .nil (l' := [(2, vsI D), (3, .vptr [.vs (cXs l)]), (4, .vptr [.int .i64 (n : Nat)]), (24, .int .i64 (2 ^ n : Nat)), (25, .int .i64 ((0 : Nat) : Int))]) (.cons rfl (.same rfl) (.cons rfl (.fptr rfl rfl) (.cons rfl (.fptr rfl rfl) (.cons rfl (.same rfl) (.cons rfl (.same rfl) .nil)))))) ⟨0, rfl, Nat.zero_le _, rfl⟩ ?_
  rintro mm S ⟨k, rfl, hk, rfl⟩
  unfold b60_0
  repeat (first | refine z_seq ?_ | refine z_region rfl ?_)
  refine o_cmp rfl rfl rfl (fun h3 => ?_) fun h3 => ?_
  · have hlt : k < 2 ^ n := Int.ofNat_lt.1 (of_decide_eq_true h3)
    have h110 := proves110 l hsl h1 h4 hg hlt D hD (fun z hz => by have := hb z hz; omega) (hp k hlt)
    repeat (first | refine z_seq ?_ | refine z_region rfl ?_ | refine o_nil ?_ | refine u_seq ?_ | refine z_block ?_ | refine z_skip ?_ | refine z_ct rfl ?_ | refine o_mov rfl ?_ | refine o_load rfl rfl ?_ | refine o_loadn rfl rfl rfl rfl ?_)
    refine o_call rfl rfl h110 (fun h => Bool.noConfusion (show false = true from h)) ?_
    repeat (first | refine z_region rfl ?_ | refine o_nil ?_ | refine u_seq ?_ | refine u_blk ?_ | refine z_skip ?_ | refine z_cf rfl ?_ | refine o_mov rfl ?_ | refine o_un rfl rfl ?_ | refine o_bin (op := .add) rfl rfl rfl ?_)
    rw [wrap_succ k (by omega)]
    exact u_round (show 2 ^ n - (k + 1) < 2 ^ n - k by omega) (sub_ren0 (.cons rfl (.same rfl) (.cons rfl (.same rfl) (.cons rfl (.same rfl) (.cons rfl (.same rfl) (.cons rfl (.same rfl) .nil)))))) ⟨k + 1, rfl, hlt, rfl⟩
  · repeat (first | refine z_seq ?_ | refine o_nil ?_ | refine u_seq ?_ | refine z_cf rfl ?_ | refine z_exit ?_ | refine u_exit_seq ?_)
    refine u_out ?_
    repeat (first | refine z_seq ?_ | refine z_region rfl ?_ | refine o_nil ?_ | refine u_seq ?_ | refine z_ret ?_ | refine u_exit ?_ | refine o_mov rfl ?_)
    exact u_end ⟨.inr rfl, _, rfl, rfl⟩

end Go.Proofs.Ytoiblgbaeglgoaa
