/-
  THE REFERENCE's LEVELS: All, its walk; Levels twice.
-/
import Derived.Test.YtoiblgbaeglgoaaVH12
namespace Go.Proofs.Ytoiblgbaeglgoaa
open Go Go.Am

def b99_0 : IC := .seq (.seq (.region [⟨(some 11), .mov (.t 6), none⟩,
    ⟨(some 12), .mov (.t 1), none⟩,
    ⟨(some 13), .bin .shl (.c (.int .i64 1)) (.t 12), none⟩,
    ⟨(some 14), .bin .lss (.t 11) (.t 13), none⟩] none)
  (.cond (.t 14) (.skip)
  (.exit 0)))
  (.seq (.block 1 (.region [⟨(some 17), .mov (.t 5), none⟩,
    ⟨(some 18), .bslice 1 1 [.int .i64 0] [(0, 1, (.c (.int .i64 (-1))))], none⟩,
    ⟨(some 19), .append 1 8 [.int .i64 0] (.t 17) (.t 18), none⟩,
    ⟨(some 5), .mov (.t 19), none⟩] none))
  (.region [⟨(some 15), .mov (.t 6), none⟩,
    ⟨(some 16), .bin .add (.t 15) (.c (.int .i64 1)), none⟩,
    ⟨(some 6), .mov (.t 16), none⟩] none))

def b99_6 : IC := .seq (.seq (.region [⟨(some 44), .mov (.t 10), none⟩,
    ⟨(some 45), .mov (.t 9), none⟩,
    ⟨(some 46), .len false (.t 45), none⟩,
    ⟨(some 47), .bin .lss (.t 44) (.t 46), none⟩,
    ⟨(some 48), .mov (.t 47), none⟩,
    ⟨(some 49), .mov (.t 5), some (48, true)⟩,
    ⟨(some 50), .mov (.t 8), some (48, true)⟩,
    ⟨(some 51), .idxs 1 (.t 49) (.t 50), some (48, true)⟩,
    ⟨(some 52), .load none (.t 51), some (48, true)⟩,
    ⟨(some 53), .bin .lss (.t 52) (.c (.int .i64 0)), some (48, true)⟩,
    ⟨(some 54), .pick (.t 48) (.t 53) (.c (.bool false)), none⟩] none)
  (.cond (.t 54) (.skip)
  (.exit 6)))
  (.seq (.block 7 (.seq (.region [⟨(some 57), .mov (.t 5), none⟩,
    ⟨(some 58), .mov (.t 8), none⟩,
    ⟨(some 59), .mov (.t 9), none⟩,
    ⟨(some 60), .mov (.t 10), none⟩,
    ⟨(some 61), .idxs 2 (.t 59) (.t 60), none⟩,
    ⟨(some 62), .faddr 0 (.t 61), none⟩,
    ⟨(some 63), .load none (.t 62), none⟩,
    ⟨(some 64), .bin .shl (.c (.int .i64 1)) (.t 63), none⟩,
    ⟨(some 65), .bin .xor (.t 58) (.t 64), none⟩,
    ⟨(some 66), .idxs 1 (.t 57) (.t 65), none⟩,
    ⟨(some 67), .load none (.t 66), none⟩,
    ⟨(some 68), .mov (.t 7), none⟩,
    ⟨(some 69), .bin .eql (.t 67) (.t 68), none⟩] none)
  (.cond (.t 69) (.region [⟨(some 70), .mov (.t 5), none⟩,
    ⟨(some 71), .mov (.t 8), none⟩,
    ⟨(some 72), .mov (.t 7), none⟩,
    ⟨(some 73), .bin .add (.t 72) (.c (.int .i64 1)), none⟩,
    ⟨(some 74), .idxs 1 (.t 70) (.t 71), none⟩,
    ⟨none, .store 1 (.t 74) (.t 73), none⟩] none)
  (.skip))))
  (.region [⟨(some 55), .mov (.t 10), none⟩,
    ⟨(some 56), .bin .add (.t 55) (.c (.int .i64 1)), none⟩,
    ⟨(some 10), .mov (.t 56), none⟩] none))

def b99_4 : IC := .seq (.seq (.region [⟨(some 33), .mov (.t 8), none⟩,
    ⟨(some 34), .mov (.t 1), none⟩,
    ⟨(some 35), .bin .shl (.c (.int .i64 1)) (.t 34), none⟩,
    ⟨(some 36), .bin .lss (.t 33) (.t 35), none⟩] none)
  (.cond (.t 36) (.skip)
  (.exit 4)))
  (.seq (.block 5 (.seq (.region [⟨(some 39), .load (some 1) (.t 2), none⟩,
    ⟨(some 40), .mov (.t 1), none⟩,
    ⟨(some 41), .mov (.t 8), none⟩,
    ⟨(some 42), .call (.c (.fn 55 [] [])) [(.t 40), (.t 41)], none⟩,
    ⟨(some 43), .call (.c (.fn 103 [] [])) [(.t 39), (.t 42)], none⟩,
    ⟨(some 9), .mov (.t 43), none⟩] (some [[], [], [], [1, 2], [0, 3, 3], [4, 4, 0, 1, 2, 3, 4]]))
  (.seq (.region [⟨(some 10), .mov (.c (.int .i64 0)), none⟩] none)
  (.block 6 (.loop b99_6)))))
  (.region [⟨(some 37), .mov (.t 8), none⟩,
    ⟨(some 38), .bin .add (.t 37) (.c (.int .i64 1)), none⟩,
    ⟨(some 8), .mov (.t 38), none⟩] none))

def b99_2 : IC := .seq (.seq (.region [⟨(some 27), .mov (.t 7), none⟩,
    ⟨(some 28), .mov (.t 1), none⟩,
    ⟨(some 29), .bin .shl (.c (.int .i64 1)) (.t 28), none⟩,
    ⟨(some 30), .bin .lss (.t 27) (.t 29), none⟩] none)
  (.cond (.t 30) (.skip)
  (.exit 2)))
  (.seq (.block 3 (.seq (.region [⟨(some 8), .mov (.c (.int .i64 0)), none⟩] none)
  (.block 4 (.loop b99_4))))
  (.region [⟨(some 31), .mov (.t 7), none⟩,
    ⟨(some 32), .bin .add (.t 31) (.c (.int .i64 1)), none⟩,
    ⟨(some 7), .mov (.t 32), none⟩] none))

-- pneumatic/pneumaticref50.All
def ic99 : IC := .seq (.region [⟨(some 2), .box (.t 0), none⟩,
    ⟨(some 4), .mov (.c (.nils)), none⟩] none)
  (.seq (.region [⟨(some 5), .mov (.c (.nils)), none⟩] none)
  (.seq (.seq (.region [⟨(some 6), .mov (.c (.int .i64 0)), none⟩] none)
  (.block 0 (.loop b99_0)))
  (.seq (.seq (.region [⟨(some 20), .load (some 1) (.t 2), none⟩,
    ⟨(some 21), .mov (.t 1), none⟩,
    ⟨(some 22), .call (.c (.fn 55 [] [])) [(.t 21), (.c (.int .i64 0))], none⟩,
    ⟨(some 23), .call (.c (.fn 56 [] [])) [(.t 22)], none⟩,
    ⟨(some 24), .call (.c (.fn 98 [] [])) [(.t 20), (.t 23)], none⟩] (some [[], [], [1], [2, 2], [0, 3, 3]]))
  (.cond (.t 24) (.region [⟨(some 25), .mov (.t 5), none⟩,
    ⟨(some 26), .idxs 1 (.t 25) (.c (.int .i64 0)), none⟩,
    ⟨none, .store 1 (.t 26) (.c (.int .i64 0)), none⟩] none)
  (.skip)))
  (.seq (.seq (.region [⟨(some 7), .mov (.c (.int .i64 0)), none⟩] none)
  (.block 2 (.loop b99_2)))
  (.seq (.region [⟨(some 75), .mov (.t 5), none⟩,
    ⟨(some 4), .mov (.t 75), none⟩] none)
  (.ret))))))
theorem fn99 : env0.fn 99 = some ⟨76, ic99, [.t 4]⟩ := by kernel_rfl

theorem rep_snoc (i : Nat) : (List.replicate (i + 1) (-1 : Int)).map (AV.int .i64) = (List.replicate i (-1 : Int)).map (AV.int .i64) ++ [.int .i64 (-1)] := by
  rw [List.replicate_succ', List.map_append]
  rfl

theorem getD_int {out : List Int} {k : Nat} (hk : k < out.length) : (out.map (AV.int .i64))[0 + ((k : Nat) : Int).toNat * 1]? = some (.int .i64 (out.getD k 0)) := by
  rw [show 0 + ((k : Nat) : Int).toNat * 1 = k from by omega, List.getElem?_map, List.getD_eq_getElem?_getD, List.getElem?_eq_getElem hk]
  rfl

theorem set_int {out : List Int} {k : Nat} (v : Int) : (out.map (AV.int .i64)).set (0 + ((k : Nat) : Int).toNat * 1) (.int .i64 v) = (out.set k v).map (AV.int .i64) := by
  rw [show 0 + ((k : Nat) : Int).toNat * 1 = k from by omega, List.map_set]

def s99 (l : List Ex) (n : Nat) (out : List Int) (x : List (Nat × AV)) : AS := st 76 ([(1, .int .i64 (n : Nat)), (2, .vptr [.vs (cXs l)]), (5, .ms 0 0 1 0 (2 ^ n) none)] ++ x) [(0, 0, .cells (out.map (AV.int .i64)))] 1 1

set_option maxHeartbeats 8000000 in
theorem all99 (l : List Ex) {n : Nat} (h1 : 1 ≤ n) (h4 : n ≤ 4) (hg : guardC l n = 0) : PF Try.prog 99 [.agg [.vs (cXs l)], .int .i64 (n : Nat)] (vsI (levL l n)) := by
  have hb0 := bitsE_len n 0
  have hN := Nat.two_pow_pos n
  have hp4 := pow4 h4
  have hD := lev_any (l := l) h1 h4
  have hends := ends55 (e := bitsE n 0) (by rw [hb0]; exact h1) (by rw [hb0]; exact h4)
  rw [hb0, idx_bits h1 h4 hN] at hends
  have hpos := pos56 (e := bitsE n 0) (by rw [hb0]; exact h1) (by rw [hb0]; exact h4)
  have hfr := free98 l hg (posE (bitsE n 0)) (by rw [posE_len, hb0])
  refine PF_of_Z env0_ok fn99 [(0, .agg [.vs (cXs l)]), (1, .int .i64 (n : Nat))] (by show 2 ≤ 76; decide) rfl fun w0 N0 => ?_
  unfold ic99
  repeat (first | refine z_seq ?_ | refine z_region rfl ?_ | refine o_nil ?_ | refine u_seq ?_ | refine z_block ?_ | refine o_mov rfl ?_ | refine o_box rfl rfl ?_)
  refine z_loop (fun mm S => ∃ i, mm = 2 ^ n - i ∧ i ≤ 2 ^ n ∧ S = st 76 [(1, .int .i64 (n : Nat)), (2, .vptr [.vs (cXs l)]), (5, .ms 0 0 1 0 i none), (6, .int .i64 (i : Nat))] [(0, 0, .cells ((List.replicate i (-1 : Int)).map (AV.int .i64)))] 1 1) (2 ^ n)
    (sub_renw [(none, [])] [(0, 0, [.vs (cXs l)])] rfl rfl rfl (.cons rfl rfl .nil) (.new .nil) (l' := [(1, .int .i64 (n : Nat)), (2, .vptr [.vs (cXs l)]), (5, .ms 0 0 1 0 0 none), (6, .int .i64 ((0 : Nat) : Int))]) (.cons rfl (.same rfl) (.cons rfl (.fptr rfl rfl) (.cons rfl (.grow rfl) (.cons rfl (.same rfl) .nil))))) ⟨0, rfl, Nat.zero_le _, rfl⟩ ?_
  rintro mm S ⟨i, rfl, hi, rfl⟩
  unfold b99_0
  repeat (first | refine z_seq ?_ | refine z_region rfl ?_ | refine o_mov rfl ?_)
  refine o_bin (op := .shl) rfl rfl (shl4 h4) ?_
  refine o_cmp rfl rfl rfl (fun h3 => ?_) fun h3 => ?_
  · have hlt : i < 2 ^ n := Int.ofNat_lt.1 (of_decide_eq_true h3)
    repeat (first | refine z_seq ?_ | refine z_region rfl ?_ | refine o_nil ?_ | refine u_seq ?_ | refine z_block ?_ | refine z_skip ?_ | refine z_ct rfl ?_ | refine o_mov rfl ?_)
    refine o_fsl [[.int .i64 (-1)]] rfl rfl rfl rfl ?_
    refine o_append_ms [[.int .i64 (-1)]] rfl rfl rfl (fun h => Nat.noConfusion h) rfl (by decide) rfl (by rw [List.length_map, List.length_replicate, Nat.mul_one]) (by show i + 1 ≤ _; omega) ?_
    repeat (first | refine z_region rfl ?_ | refine o_nil ?_ | refine u_seq ?_ | refine u_blk ?_ | refine o_mov rfl ?_ | refine o_bin (op := .add) rfl rfl rfl ?_)
    rw [wrap_succ i (by omega)]
    exact u_round (show 2 ^ n - (i + 1) < 2 ^ n - i by omega) (sub_renw [(some (0, 1), (List.replicate (i + 1) (-1 : Int)).map (AV.int .i64))] [] rfl rfl rfl .nil (.cons (by rw [rep_snoc]; rfl) (.keep (hasML_intl _)) .nil) (.cons rfl (.same rfl) (.cons rfl (.same rfl) (.cons rfl (.ms rfl) (.cons rfl (.same rfl) .nil))))) ⟨i + 1, rfl, hlt, rfl⟩
  have hi2 : i = 2 ^ n := by
    have : ¬ i < 2 ^ n := fun h => of_decide_eq_false h3 (Int.ofNat_lt.2 h)
    omega
  subst hi2
  -- the rounds
  have tail : ∀ out : List Int, Mix n (levL l n) 0 0 out → Zm Try.prog w0 N0 none (.seq (.seq (.region [⟨(some 7), .mov (.c (.int .i64 0)), none⟩] none) (.block 2 (.loop b99_2))) (.seq (.region [⟨(some 75), .mov (.t 5), none⟩, ⟨(some 4), .mov (.t 75), none⟩] none) (.ret))) (s99 l n out []) []
      (fun e S' => (e = .normal ∨ e = .ret) ∧ ∃ v0, S'.leave.res [.t 4] = some v0 ∧ (⟨0, .nil, S'.leave.heap, S'.leave.next, S'.leave.clk, []⟩ : AS).view VD v0 = vsI (levL l n)) := by
    intro out hM
    unfold s99
    repeat (first | refine z_seq ?_ | refine z_region rfl ?_ | refine o_nil ?_ | refine u_seq ?_ | refine z_block ?_ | refine o_mov rfl ?_)
    refine z_loop (fun mm S => ∃ far out, mm = 2 ^ n - far ∧ far ≤ 2 ^ n ∧ Mix n (levL l n) far 0 out ∧ S = s99 l n out [(7, .int .i64 (far : Nat))]) (2 ^ n)
      (sub_keep (l' := [(1, .int .i64 (n : Nat)), (2, .vptr [.vs (cXs l)]), (5, .ms 0 0 1 0 (2 ^ n) none), (7, .int .i64 ((0 : Nat) : Int))]) (.cons rfl (.cons rfl (.cons rfl (.cons rfl .nil))))) ⟨0, out, rfl, Nat.zero_le _, hM, rfl⟩ ?_
    clear hM out
    rintro mm S ⟨far, out, rfl, hfar, hM, rfl⟩
    unfold b99_2 s99
    repeat (first | refine z_seq ?_ | refine z_region rfl ?_ | refine o_mov rfl ?_)
    refine o_bin (op := .shl) rfl rfl (shl4 h4) ?_
    refine o_cmp rfl rfl rfl (fun h3 => ?_) fun h3 => ?_
    · have hfl : far < 2 ^ n := Int.ofNat_lt.1 (of_decide_eq_true h3)
      repeat (first | refine z_seq ?_ | refine z_region rfl ?_ | refine o_nil ?_ | refine u_seq ?_ | refine z_block ?_ | refine z_skip ?_ | refine z_ct rfl ?_ | refine o_mov rfl ?_)
      refine z_loop (fun mm S => ∃ k out, mm = 2 ^ n - k ∧ k ≤ 2 ^ n ∧ Mix n (levL l n) far k out ∧ S = s99 l n out [(7, .int .i64 (far : Nat)), (8, .int .i64 (k : Nat))]) (2 ^ n)
        (sub_keep (l' := [(1, .int .i64 (n : Nat)), (2, .vptr [.vs (cXs l)]), (5, .ms 0 0 1 0 (2 ^ n) none), (7, .int .i64 (far : Nat)), (8, .int .i64 ((0 : Nat) : Int))]) (.cons rfl (.cons rfl (.cons rfl (.cons rfl (.cons rfl .nil)))))) ⟨0, out, rfl, Nat.zero_le _, hM, rfl⟩ ?_
      clear hM out
      rintro mm S ⟨k, out, rfl, hk, hM, rfl⟩
      unfold b99_4 s99
      repeat (first | refine z_seq ?_ | refine z_region rfl ?_ | refine o_mov rfl ?_)
      refine o_bin (op := .shl) rfl rfl (shl4 h4) ?_
      refine o_cmp rfl rfl rfl (fun h5 => ?_) fun h5 => ?_
      · have hkl : k < 2 ^ n := Int.ofNat_lt.1 (of_decide_eq_true h5)
        have hbl := bitsE_len n k
        have hib := idx_bits h1 h4 hkl
        have he := ends55 (e := bitsE n k) (by rw [hbl]; exact h1) (by rw [hbl]; exact h4)
        rw [hbl, hib] at he
        have hmv := moves103 l (bitsE n k) (by rw [hbl]; exact h1) (by rw [hbl]; exact h4) (by rw [hbl]; exact hg)
        rw [moves_mv] at hmv
        have hml : (cSs ((mv l n k).map fun i => ⟨(i : Nat), !((bitsE n k).getD i false)⟩)).length = (mv l n k).length := by rw [cSs_length, List.length_map]
        have hmn : (mv l n k).length ≤ n := by
          have := List.length_filter_le (fun i => mayB l (bitsE n k) i) (List.range n)
          rwa [List.length_range] at this
        repeat (first | refine z_seq ?_ | refine o_nil ?_ | refine u_seq ?_ | refine z_block ?_ | refine z_skip ?_ | refine z_ct rfl ?_)
        refine z_drawn env0_ok [(55, [.int .i64 (n : Nat), .int .i64 (k : Nat)], vsB (bitsE n k)), (103, [.agg [.vs (cXs l)], vsB (bitsE n k)], .vs (cSs ((mv l n k).map fun i => ⟨(i : Nat), !((bitsE n k).getD i false)⟩)))] (fun x hx => by
          rcases List.mem_cons.1 hx with rfl | hx
          · exact he
          obtain rfl := List.mem_singleton.1 hx
          exact hmv) (fun f => Nat.beq f 55 || Nat.beq f 103) rfl rfl rfl ?_
        repeat (first | refine o_mov rfl ?_ | refine o_loadn rfl rfl rfl rfl ?_)
        refine o_call rfl rfl lookL_here (fun h => Bool.noConfusion (show false = true from h)) ?_
        refine o_call rfl rfl (lookL_next (by decide) lookL_here) (fun h => Bool.noConfusion (show false = true from h)) ?_
        repeat (first | refine z_seq ?_ | refine z_region rfl ?_ | refine o_nil ?_ | refine u_seq ?_ | refine z_block ?_ | refine o_mov rfl ?_)
        refine z_loop (fun mm S => ∃ j out, mm = (mv l n k).length - j ∧ j ≤ (mv l n k).length ∧ ((Mix n (levL l n) far k out ∧ (out.getD k 0 < 0 → ∀ i ∈ (mv l n k).take j, (levL l n).getD (nxt n k i) 0 ≠ (far : Int))) ∨ (Mix n (levL l n) far (k + 1) out ∧ 0 ≤ out.getD k 0)) ∧
            S = s99 l n out [(7, .int .i64 (far : Nat)), (8, .int .i64 (k : Nat)), (9, .vs (cSs ((mv l n k).map fun i => ⟨(i : Nat), !((bitsE n k).getD i false)⟩))), (10, .int .i64 (j : Nat))]) (mv l n k).length
          (sub_keep (l' := [(1, .int .i64 (n : Nat)), (2, .vptr [.vs (cXs l)]), (5, .ms 0 0 1 0 (2 ^ n) none), (7, .int .i64 (far : Nat)), (8, .int .i64 (k : Nat)), (9, .vs (cSs ((mv l n k).map fun i => ⟨(i : Nat), !((bitsE n k).getD i false)⟩))), (10, .int .i64 ((0 : Nat) : Int))]) (.cons rfl (.cons rfl (.cons rfl (.cons rfl (.cons rfl (.cons rfl (.cons rfl .nil))))))))
          ⟨0, out, rfl, Nat.zero_le _, .inl ⟨hM, fun _ i hi => absurd hi (by simp)⟩, rfl⟩ ?_
        clear hM out
        rintro mm S ⟨j, out, rfl, hj, hM, rfl⟩
        have hol : out.length = 2 ^ n := by
          rcases hM with hM | hM
          · exact hM.1.len
          · exact hM.1.len
        have hgk := getD_int (out := out) (k := k) (by omega)
        unfold b99_6 s99
        repeat (first | refine z_seq ?_ | refine z_region rfl ?_ | refine o_mov rfl ?_ | refine o_len rfl rfl ?_)
        rw [hml]
        refine o_cmp rfl rfl rfl (fun h7 => ?_) fun h7 => ?_
        · have hlt : j < (mv l n k).length := by
            have := of_decide_eq_true h7
            omega
          repeat (first | refine o_gy rfl ?_ | refine o_mov rfl ?_ | refine o_idxsm rfl rfl (by omega) (by omega) ?_)
          refine o_loadg rfl rfl (by decide) hgk ?_
          refine o_gy rfl ?_
          refine o_cmp rfl rfl rfl (fun h8 => ?_) fun h8 => ?_
          · have hneg : out.getD k 0 < 0 := of_decide_eq_true h8
            have hM1 : Mix n (levL l n) far k out ∧ ∀ i ∈ (mv l n k).take j, (levL l n).getD (nxt n k i) 0 ≠ (far : Int) := by
              rcases hM with hM | hM
              · exact ⟨hM.1, hM.2 hneg⟩
              · exact absurd hM.2 (by omega)
            have hmem := List.getElem_mem hlt
            have hi := mv_lt hmem
            have hge : (cSs ((mv l n k).map fun i => ⟨(i : Nat), !((bitsE n k).getD i false)⟩))[((j : Nat) : Int).toNat]? = some [.int .i64 ((mv l n k)[j] : Nat), .bool (!((bitsE n k).getD (mv l n k)[j] false))] := by
              have := cSs_get (l := (mv l n k).map fun i => (⟨(i : Nat), !((bitsE n k).getD i false)⟩ : Sk)) (i := j) (by rw [List.length_map]; exact hlt)
              rw [List.getElem_map] at this
              exact this
            have htk : (mv l n k).take (j + 1) = (mv l n k).take j ++ [(mv l n k)[j]] := by rw [List.take_add_one, List.getElem?_eq_getElem hlt]; rfl
            generalize (mv l n k)[j] = i at hi hge hmem htk
            have hy := nxt_lt (k := k) (i := i) h1 h4
            have hx := xorE (e := bitsE n k) (by rw [hbl]; exact h1) (by rw [hbl]; exact h4) (by rw [hbl]; exact hi)
            rw [hib, show idxE (flipE (bitsE n k) i) = nxt n k i from rfl] at hx
            have hgy := getD_int (out := out) (k := nxt n k i) (by omega)
            repeat (first | refine z_seq ?_ | refine z_region rfl ?_ | refine o_nil ?_ | refine u_seq ?_ | refine z_block ?_ | refine z_skip ?_ | refine z_ct rfl ?_ | refine o_mov rfl ?_ | refine o_load rfl rfl ?_ | refine o_faddrv rfl rfl rfl ?_ | refine o_pickt rfl rfl ?_ | refine o_idxs rfl rfl (by omega) (by assumption) rfl ?_)
            refine o_bin (op := .shl) rfl rfl (shl1 (show i < 4 by omega)) ?_
            refine o_bin (op := .xor) rfl rfl hx ?_
            repeat (first | refine o_idxsm rfl rfl (by omega) (by omega) ?_)
            refine o_loadg rfl rfl (by decide) hgy ?_
            repeat (first | refine o_mov rfl ?_)
            refine o_cmp rfl rfl rfl (fun h9 => ?_) fun h9 => ?_
            · have hf : out.getD (nxt n k i) 0 = (far : Int) := by simpa using h9
              have hnew := mix_new h1 h4 hD hkl hmem hM1.1 hneg hf
              have hkk : (out.set k ((far : Int) + 1)).getD k 0 = (far : Int) + 1 := by rw [getD_set_int (by omega), if_pos rfl]
              repeat (first | refine z_region rfl ?_ | refine o_nil ?_ | refine u_seq ?_ | refine z_ct rfl ?_ | refine o_mov rfl ?_ | refine o_bin (op := .add) rfl rfl rfl ?_ | refine o_idxsm rfl rfl (by omega) (by omega) ?_)
              rw [wrap_in _ (by omega) (by omega)]
              refine o_storeg rfl rfl rfl rfl (by rw [List.length_map]; omega) rfl ?_
              rw [set_int]
              repeat (first | refine z_region rfl ?_ | refine o_nil ?_ | refine u_seq ?_ | refine u_blk ?_ | refine o_mov rfl ?_ | refine o_bin (op := .add) rfl rfl rfl ?_)
              rw [wrap_succ j (by omega)]
              exact u_round (show (mv l n k).length - (j + 1) < (mv l n k).length - j by omega) (sub_keep (l' := [(1, .int .i64 (n : Nat)), (2, .vptr [.vs (cXs l)]), (5, .ms 0 0 1 0 (2 ^ n) none), (7, .int .i64 (far : Nat)), (8, .int .i64 (k : Nat)), (9, .vs (cSs ((mv l n k).map fun i => ⟨(i : Nat), !((bitsE n k).getD i false)⟩))), (10, .int .i64 ((j + 1 : Nat) : Int))]) (.cons rfl (.cons rfl (.cons rfl (.cons rfl (.cons rfl (.cons rfl (.cons rfl .nil))))))))
                ⟨j + 1, _, rfl, hlt, .inr ⟨hnew, by rw [hkk]; omega⟩, rfl⟩
            · have hf : out.getD (nxt n k i) 0 ≠ (far : Int) := by simpa using h9
              repeat (first | refine z_region rfl ?_ | refine o_nil ?_ | refine u_seq ?_ | refine u_blk ?_ | refine z_skip ?_ | refine z_cf rfl ?_ | refine o_mov rfl ?_ | refine o_bin (op := .add) rfl rfl rfl ?_)
              rw [wrap_succ j (by omega)]
              refine u_round (show (mv l n k).length - (j + 1) < (mv l n k).length - j by omega) (sub_keep (l' := [(1, .int .i64 (n : Nat)), (2, .vptr [.vs (cXs l)]), (5, .ms 0 0 1 0 (2 ^ n) none), (7, .int .i64 (far : Nat)), (8, .int .i64 (k : Nat)), (9, .vs (cSs ((mv l n k).map fun i => ⟨(i : Nat), !((bitsE n k).getD i false)⟩))), (10, .int .i64 ((j + 1 : Nat) : Int))]) (.cons rfl (.cons rfl (.cons rfl (.cons rfl (.cons rfl (.cons rfl (.cons rfl .nil))))))))
                ⟨j + 1, _, rfl, hlt, .inl ⟨hM1.1, fun _ i2 hi2 => ?_⟩, rfl⟩
              rw [htk] at hi2
              rcases List.mem_append.1 hi2 with hi2 | hi2
              · exact hM1.2 i2 hi2
              · obtain rfl := List.mem_singleton.1 hi2
                exact fun hh => hf ((mix_nb h1 h4 hD hy hM1.1).2 hh)
          · have hge : 0 ≤ out.getD k 0 := by have := of_decide_eq_false h8; omega
            have key : Mix n (levL l n) far (k + 1) out := by
              rcases hM with hM | hM
              · exact mix_old h1 h4 hD hkl hM.1 hge
              · exact hM.1
            repeat (first | refine o_nil ?_ | refine u_seq ?_ | refine z_cf rfl ?_ | refine z_exit ?_ | refine u_exit_seq ?_ | refine o_pickt rfl rfl ?_)
            refine u_out ?_
            repeat (first | refine z_region rfl ?_ | refine o_nil ?_ | refine u_seq ?_ | refine u_blk ?_ | refine u_exit ?_ | refine o_mov rfl ?_ | refine o_bin (op := .add) rfl rfl rfl ?_)
            rw [wrap_succ k (by omega)]
            exact u_round (show 2 ^ n - (k + 1) < 2 ^ n - k by omega) (sub_keep (l' := [(1, .int .i64 (n : Nat)), (2, .vptr [.vs (cXs l)]), (5, .ms 0 0 1 0 (2 ^ n) none), (7, .int .i64 (far : Nat)), (8, .int .i64 ((k + 1 : Nat) : Int))]) (.cons rfl (.cons rfl (.cons rfl (.cons rfl (.cons rfl .nil)))))) ⟨k + 1, out, rfl, hkl, key, rfl⟩
        · have hj2 : j = (mv l n k).length := by
            have := of_decide_eq_false h7
            omega
          have key : Mix n (levL l n) far (k + 1) out := by
            rcases hM with hM | hM
            · by_cases hneg : out.getD k 0 < 0
              · have := hM.2 hneg
                rw [hj2, List.take_length] at this
                exact mix_none h1 h4 hD hkl hM.1 this hneg
              · exact mix_old h1 h4 hD hkl hM.1 (by omega)
            · exact hM.1
          repeat (first | refine o_nil ?_ | refine u_seq ?_ | refine z_cf rfl ?_ | refine z_exit ?_ | refine u_exit_seq ?_ | refine o_gn rfl rfl ?_ | refine o_mov rfl ?_ | refine o_pickf rfl rfl ?_)
          refine u_out ?_
          repeat (first | refine z_region rfl ?_ | refine o_nil ?_ | refine u_seq ?_ | refine u_blk ?_ | refine u_exit ?_ | refine o_mov rfl ?_ | refine o_bin (op := .add) rfl rfl rfl ?_)
          rw [wrap_succ k (by omega)]
          exact u_round (show 2 ^ n - (k + 1) < 2 ^ n - k by omega) (sub_keep (l' := [(1, .int .i64 (n : Nat)), (2, .vptr [.vs (cXs l)]), (5, .ms 0 0 1 0 (2 ^ n) none), (7, .int .i64 (far : Nat)), (8, .int .i64 ((k + 1 : Nat) : Int))]) (.cons rfl (.cons rfl (.cons rfl (.cons rfl (.cons rfl .nil)))))) ⟨k + 1, out, rfl, hkl, key, rfl⟩
      · have hk2 : k = 2 ^ n := by
          have : ¬ k < 2 ^ n := fun h => of_decide_eq_false h5 (Int.ofNat_lt.2 h)
          omega
        subst hk2
        repeat (first | refine o_nil ?_ | refine u_seq ?_ | refine z_cf rfl ?_ | refine z_exit ?_ | refine u_exit_seq ?_)
        refine u_out ?_
        repeat (first | refine z_region rfl ?_ | refine o_nil ?_ | refine u_seq ?_ | refine u_blk ?_ | refine u_exit ?_ | refine o_mov rfl ?_ | refine o_bin (op := .add) rfl rfl rfl ?_)
        rw [wrap_succ far (by omega)]
        exact u_round (show 2 ^ n - (far + 1) < 2 ^ n - far by omega) (sub_keep (l' := [(1, .int .i64 (n : Nat)), (2, .vptr [.vs (cXs l)]), (5, .ms 0 0 1 0 (2 ^ n) none), (7, .int .i64 ((far + 1 : Nat) : Int))]) (.cons rfl (.cons rfl (.cons rfl (.cons rfl .nil))))) ⟨far + 1, out, rfl, hfl, mix_next h1 h4 hD hM, rfl⟩
    · have hf2 : far = 2 ^ n := by
        have : ¬ far < 2 ^ n := fun h => of_decide_eq_false h3 (Int.ofNat_lt.2 h)
        omega
      subst hf2
      have hout := mix_end h1 h4 hD hM
      subst hout
      repeat (first | refine o_nil ?_ | refine u_seq ?_ | refine z_cf rfl ?_ | refine z_exit ?_ | refine u_exit_seq ?_)
      refine u_out ?_
      repeat (first | refine z_seq ?_ | refine z_region rfl ?_ | refine o_nil ?_ | refine u_seq ?_ | refine z_ret ?_ | refine u_exit ?_ | refine o_mov rfl ?_)
      exact u_end ⟨.inr rfl, _, rfl, view_intN (d := 3) _ hM.len rfl⟩
  repeat (first | refine o_nil ?_ | refine u_seq ?_ | refine z_cf rfl ?_ | refine z_exit ?_ | refine u_exit_seq ?_)
  refine u_out ?_
  repeat (first | refine z_seq ?_ | refine u_seq ?_ | refine u_exit ?_)
  refine z_drawn env0_ok [(55, [.int .i64 (n : Nat), .int .i64 0], vsB (bitsE n 0)), (56, [vsB (bitsE n 0)], vsI (posE (bitsE n 0))), (98, [.agg [.vs (cXs l)], vsI (posE (bitsE n 0))], .bool (freeB l (posE (bitsE n 0))))] (fun x hx => by
    rcases List.mem_cons.1 hx with rfl | hx
    · exact hends
    rcases List.mem_cons.1 hx with rfl | hx
    · exact hpos
    obtain rfl := List.mem_singleton.1 hx
    exact hfr) (fun f => Nat.beq f 55 || Nat.beq f 56 || Nat.beq f 98) rfl rfl rfl ?_
  repeat (first | refine o_mov rfl ?_ | refine o_loadn rfl rfl rfl rfl ?_)
  refine o_call rfl rfl lookL_here (fun h => Bool.noConfusion (show false = true from h)) ?_
  refine o_call rfl rfl (lookL_next (by decide) lookL_here) (fun h => Bool.noConfusion (show false = true from h)) ?_
  refine o_call rfl rfl (lookL_next (by decide) (lookL_next (by decide) lookL_here)) (fun h => Bool.noConfusion (show false = true from h)) ?_
  cases hf : freeB l (posE (bitsE n 0)) with
  | true =>
    refine o_nil (u_seq (z_ct rfl ?_))
    refine z_region rfl (o_mov rfl ?_)
    refine o_idxsm rfl rfl (by decide) (Int.ofNat_lt.2 hN) ?_
    refine o_storeg rfl rfl rfl rfl (by rw [List.length_map, List.length_replicate]; exact hN) rfl ?_
    have e0 : ((List.replicate (2 ^ n) (-1 : Int)).map (AV.int .i64)).set (0 + (0 : Int).toNat * 1) (.int .i64 0) = (out0 n).map (AV.int .i64) := by
      unfold out0
      rw [List.map_set]
      rfl
    rw [e0]
    refine o_nil (u_seq ?_)
    refine z_sub (sub_keep (l' := [(1, .int .i64 (n : Nat)), (2, .vptr [.vs (cXs l)]), (5, .ms 0 0 1 0 (2 ^ n) none)]) (.cons rfl (.cons rfl (.cons rfl .nil)))) ?_
    exact tail (out0 n) (mix_free h1 h4 hf)
  | false =>
    refine o_nil (u_seq (z_cf rfl (z_skip (u_seq ?_))))
    refine z_sub (sub_keep (l' := [(1, .int .i64 (n : Nat)), (2, .vptr [.vs (cXs l)]), (5, .ms 0 0 1 0 (2 ^ n) none)]) (.cons rfl (.cons rfl (.cons rfl .nil)))) ?_
    exact tail (List.replicate (2 ^ n) (-1)) (mix_shut h1 h4 hf)

end Go.Proofs.Ytoiblgbaeglgoaa
