/-
  LEVELS, LOST POSITIONS AND PROGRAMS AGREE WITH THE REFERENCE: the law's walk.
-/
import Derived.Test.YtoiblgbaeglgoaaVH29
namespace Go.Proofs.Ytoiblgbaeglgoaa
open Go Go.Am

theorem lev_form {l : List Ex} {n : Int} (h4 : guardC l n = 0 → n ≤ 4) : ∃ (A : List Int) (c : Int), levV l n = .tup [vsI A, .int .i64 c] ∧ A.length ≤ 100 := by
  unfold levV
  by_cases hg : guardC l n = 0
  · rw [if_pos hg]
    obtain ⟨g1, _⟩ := guardC_ok hg
    have h4 := h4 hg
    have h1 : 1 ≤ n.toNat := by omega
    have h4 : n.toNat ≤ 4 := by omega
    have := pow4 h4
    have := (lev_any (l := l) h1 h4).len
    exact ⟨_, _, rfl, by omega⟩
  · rw [if_neg hg]
    exact ⟨_, _, rfl, Nat.zero_le _⟩

theorem prog_form {l : List Ex} {n : Int} (h4 : guardC l n = 0 → n ≤ 4) : ∃ (A : List Int) (c : Int), progV l n = .tup [vsI A, .int .i64 c] ∧ A.length ≤ 100 := by
  unfold progV
  by_cases hg : guardC l n = 0
  · rw [if_pos hg]
    have h4 := h4 hg
    have := pow4 (show n.toNat ≤ 4 by omega)
    exact ⟨_, _, rfl, by rw [progT_len]; omega⟩
  · rw [if_neg hg]
    exact ⟨_, _, rfl, Nat.zero_le _⟩

theorem lost_form {l : List Ex} {n : Int} (h4 : guardC l n = 0 → n ≤ 4) : ∃ (A : List (List Bool)) (c : Int), lostV l n = .tup [vsL A, .int .i64 c] ∧ A.length ≤ 100 ∧ ∀ x ∈ A, x.length ≤ 100000 := by
  unfold lostV
  by_cases hg : guardC l n = 0
  · rw [if_pos hg]
    have h4 := h4 hg
    have h4 : n.toNat ≤ 4 := by omega
    have := pow4 h4
    have := lostT_len l n.toNat (levL l n.toNat) (2 ^ n.toNat)
    refine ⟨_, _, rfl, by omega, fun x hx => ?_⟩
    obtain ⟨k, _, rfl⟩ := List.mem_map.1 hx
    rw [bitsE_len]
    omega
  · rw [if_neg hg]
    exact ⟨_, _, rfl, Nat.zero_le _, fun x hx => absurd hx List.not_mem_nil⟩

-- pneumatic/pneumaticlaw50.HomingLevels
def ic10 : IC := .seq (.region [⟨(some 2), .box (.t 0), none⟩,
    ⟨(some 4), .mov (.c (.bool false)), none⟩] none)
  (.seq (.seq (.region [⟨(some 13), .load (some 1) (.t 2), none⟩,
    ⟨(some 14), .call (.c (.fn 35 [] [])) [(.t 13)], none⟩,
    ⟨(some 15), .mov (.t 1), none⟩,
    ⟨(some 16), .call (.c (.fn 34 [] [])) [(.t 14), (.t 15)], none⟩,
    ⟨(some 17), .un .not (.t 16), none⟩] none)
  (.cond (.t 17) (.seq (.region [⟨(some 18), .call (.c (.fn 36 [] [])) [], none⟩,
    ⟨(some 4), .mov (.t 18), none⟩] none)
  (.ret))
  (.skip)))
  (.seq (.region [⟨(some 20), .load (some 1) (.t 2), none⟩,
    ⟨(some 21), .mov (.t 1), none⟩,
    ⟨(some 22), .call (.c (.fn 42 [] [])) [(.t 20), (.t 21)], none⟩,
    ⟨(some 19), .mov (.t 22), none⟩,
    ⟨(some 23), .extract (.t 19) 0, none⟩,
    ⟨(some 24), .extract (.t 19) 1, none⟩,
    ⟨(some 5), .mov (.t 23), none⟩,
    ⟨(some 6), .mov (.t 24), none⟩] none)
  (.seq (.region [⟨(some 26), .load (some 1) (.t 2), none⟩,
    ⟨(some 27), .call (.c (.fn 35 [] [])) [(.t 26)], none⟩,
    ⟨(some 28), .mov (.t 1), none⟩,
    ⟨(some 29), .call (.c (.fn 49 [] [])) [(.t 27), (.t 28)], none⟩,
    ⟨(some 25), .mov (.t 29), none⟩,
    ⟨(some 30), .extract (.t 25) 0, none⟩,
    ⟨(some 31), .extract (.t 25) 1, none⟩,
    ⟨(some 7), .mov (.t 30), none⟩,
    ⟨(some 8), .mov (.t 31), none⟩] none)
  (.seq (.region [⟨(some 33), .load (some 1) (.t 2), none⟩,
    ⟨(some 34), .mov (.t 1), none⟩,
    ⟨(some 35), .call (.c (.fn 50 [] [])) [(.t 33), (.t 34)], none⟩,
    ⟨(some 32), .mov (.t 35), none⟩,
    ⟨(some 36), .extract (.t 32) 0, none⟩,
    ⟨(some 37), .extract (.t 32) 1, none⟩,
    ⟨(some 9), .mov (.t 36), none⟩,
    ⟨(some 10), .mov (.t 37), none⟩] none)
  (.seq (.region [⟨(some 39), .load (some 1) (.t 2), none⟩,
    ⟨(some 40), .call (.c (.fn 35 [] [])) [(.t 39)], none⟩,
    ⟨(some 41), .mov (.t 1), none⟩,
    ⟨(some 42), .call (.c (.fn 51 [] [])) [(.t 40), (.t 41)], none⟩,
    ⟨(some 38), .mov (.t 42), none⟩,
    ⟨(some 43), .extract (.t 38) 0, none⟩,
    ⟨(some 44), .extract (.t 38) 1, none⟩,
    ⟨(some 11), .mov (.t 43), none⟩,
    ⟨(some 12), .mov (.t 44), none⟩] none)
  (.seq (.seq (.region [⟨(some 45), .mov (.t 5), none⟩,
    ⟨(some 46), .mov (.t 7), none⟩,
    ⟨(some 47), .call (.c (.fn 20 [] [])) [(.t 45), (.t 46)], none⟩,
    ⟨(some 48), .un .not (.t 47), none⟩,
    ⟨(some 49), .mov (.t 48), none⟩,
    ⟨(some 50), .mov (.t 6), some (49, false)⟩,
    ⟨(some 51), .mov (.t 8), some (49, false)⟩,
    ⟨(some 52), .bin .neq (.t 50) (.t 51), some (49, false)⟩,
    ⟨(some 53), .pick (.t 49) (.c (.bool true)) (.t 52), none⟩,
    ⟨(some 54), .mov (.t 53), none⟩,
    ⟨(some 55), .mov (.t 9), some (54, false)⟩,
    ⟨(some 56), .mov (.t 11), some (54, false)⟩,
    ⟨(some 57), .call (.c (.fn 52 [] [])) [(.t 55), (.t 56)], some (54, false)⟩,
    ⟨(some 58), .un .not (.t 57), some (54, false)⟩,
    ⟨(some 59), .pick (.t 54) (.c (.bool true)) (.t 58), none⟩,
    ⟨(some 60), .mov (.t 59), none⟩,
    ⟨(some 61), .mov (.t 10), some (60, false)⟩,
    ⟨(some 62), .mov (.t 12), some (60, false)⟩,
    ⟨(some 63), .bin .neq (.t 61) (.t 62), some (60, false)⟩,
    ⟨(some 64), .pick (.t 60) (.c (.bool true)) (.t 63), none⟩] none)
  (.cond (.t 64) (.seq (.region [⟨(some 4), .mov (.c (.bool false)), none⟩] none)
  (.ret))
  (.skip)))
  (.seq (.region [⟨(some 66), .load (some 1) (.t 2), none⟩,
    ⟨(some 67), .mov (.t 1), none⟩,
    ⟨(some 68), .call (.c (.fn 53 [] [])) [(.t 66), (.t 67)], none⟩,
    ⟨(some 65), .mov (.t 68), none⟩,
    ⟨(some 69), .extract (.t 65) 0, none⟩,
    ⟨(some 70), .extract (.t 65) 1, none⟩,
    ⟨(some 5), .mov (.t 69), none⟩,
    ⟨(some 6), .mov (.t 70), none⟩] none)
  (.seq (.region [⟨(some 72), .load (some 1) (.t 2), none⟩,
    ⟨(some 73), .call (.c (.fn 35 [] [])) [(.t 72)], none⟩,
    ⟨(some 74), .mov (.t 1), none⟩,
    ⟨(some 75), .call (.c (.fn 54 [] [])) [(.t 73), (.t 74)], none⟩,
    ⟨(some 71), .mov (.t 75), none⟩,
    ⟨(some 76), .extract (.t 71) 0, none⟩,
    ⟨(some 77), .extract (.t 71) 1, none⟩,
    ⟨(some 7), .mov (.t 76), none⟩,
    ⟨(some 8), .mov (.t 77), none⟩] none)
  (.seq (.region [⟨(some 78), .mov (.t 5), none⟩,
    ⟨(some 79), .mov (.t 7), none⟩,
    ⟨(some 80), .call (.c (.fn 20 [] [])) [(.t 78), (.t 79)], none⟩,
    ⟨(some 81), .mov (.t 80), none⟩,
    ⟨(some 82), .mov (.t 6), some (81, true)⟩,
    ⟨(some 83), .mov (.t 8), some (81, true)⟩,
    ⟨(some 84), .bin .eql (.t 82) (.t 83), some (81, true)⟩,
    ⟨(some 85), .pick (.t 81) (.t 84) (.c (.bool false)), none⟩,
    ⟨(some 86), .mov (.t 85), none⟩,
    ⟨(some 87), .call (.c (.fn 36 [] [])) [], some (86, true)⟩,
    ⟨(some 88), .pick (.t 86) (.t 87) (.c (.bool false)), none⟩,
    ⟨(some 4), .mov (.t 88), none⟩] none)
  (.ret))))))))))
theorem fn10 : env0.fn 10 = some ⟨89, ic10, [.t 4]⟩ := by kernel_rfl

set_option maxRecDepth 20000 in
set_option maxHeartbeats 4000000 in
theorem law10h (l : List Ex) (hlen : l.length < 9223372036854775808) (hsl : ∀ y ∈ l, Slim y) (n : Int) : PF Try.prog 10 [.agg [.vs (cXs l)], .int .i64 n] (.bool true) := by
  have h35 := own35 l
  have h34 := few34 l hlen hsl n
  have haw := awake36'
  refine PF_of_Z env0_ok fn10 [(0, .agg [.vs (cXs l)]), (1, .int .i64 n)] (by show 2 ≤ 89; decide) rfl fun w0 N0 => ?_
  unfold ic10
  repeat (first | refine z_seq ?_ | refine z_region rfl ?_ | refine o_nil ?_ | refine u_seq ?_ | refine o_mov rfl ?_ | refine o_loadn rfl rfl rfl rfl ?_ | refine o_box rfl rfl ?_)
  refine o_call rfl rfl h35 (fun h => Bool.noConfusion (show false = true from h)) ?_
  repeat (first | refine o_mov rfl ?_)
  refine o_call rfl rfl h34 (fun h => Bool.noConfusion (show false = true from h)) ?_
  cases hr : fewH l n with
  | false =>
    repeat (first | refine z_seq ?_ | refine z_region rfl ?_ | refine o_nil ?_ | refine u_seq ?_ | refine z_ct rfl ?_ | refine o_un rfl rfl ?_)
    refine o_call rfl rfl haw (fun h => Bool.noConfusion (show false = true from h)) ?_
    repeat (first | refine o_nil ?_ | refine u_seq ?_ | refine z_ret ?_ | refine u_ret_seq ?_ | refine o_mov rfl ?_)
    exact u_end ⟨.inr rfl, _, rfl, rfl⟩
  | true =>
    have h4 : guardC l n = 0 → n ≤ 4 := fun hg => few_of' hr hg
    have p1 := levels42 l hsl n h4
    have p2 := levels49 l hsl n h4
    have p3 := lost50 l hsl n h4
    have p4 := lost51 l hsl n h4
    have p5 := program53 l hsl n h4
    have p6 := program54 l hsl n h4
    obtain ⟨A, c, hA, hAl⟩ := lev_form h4
    obtain ⟨B, d, hB, hBl, hBx⟩ := lost_form h4
    obtain ⟨C, r, hC, hCl⟩ := prog_form h4
    rw [hA] at p1 p2
    rw [hB] at p3 p4
    rw [hC] at p5 p6
    have eA := equal16 A A (by omega)
    rw [decide_eq_true rfl] at eA
    have eC := equal16 C C (by omega)
    rw [decide_eq_true rfl] at eC
    have eB := same52 B (by omega) hBx
    repeat (first | refine z_seq ?_ | refine z_region rfl ?_ | refine o_nil ?_ | refine u_seq ?_ | refine z_skip ?_ | refine z_cf rfl ?_ | refine o_mov rfl ?_ | refine o_loadn rfl rfl rfl rfl ?_ | refine o_un rfl rfl ?_)
    refine o_call rfl rfl p1 (fun h => Bool.noConfusion (show false = true from h)) ?_
    repeat (first | refine z_seq ?_ | refine z_region rfl ?_ | refine o_nil ?_ | refine u_seq ?_ | refine o_mov rfl ?_ | refine o_loadn rfl rfl rfl rfl ?_ | refine o_extract rfl rfl ?_)
    refine o_call rfl rfl h35 (fun h => Bool.noConfusion (show false = true from h)) ?_
    repeat (first | refine o_mov rfl ?_)
    refine o_call rfl rfl p2 (fun h => Bool.noConfusion (show false = true from h)) ?_
    repeat (first | refine z_seq ?_ | refine z_region rfl ?_ | refine o_nil ?_ | refine u_seq ?_ | refine o_mov rfl ?_ | refine o_loadn rfl rfl rfl rfl ?_ | refine o_extract rfl rfl ?_)
    refine o_call rfl rfl p3 (fun h => Bool.noConfusion (show false = true from h)) ?_
    repeat (first | refine z_seq ?_ | refine z_region rfl ?_ | refine o_nil ?_ | refine u_seq ?_ | refine o_mov rfl ?_ | refine o_loadn rfl rfl rfl rfl ?_ | refine o_extract rfl rfl ?_)
    refine o_call rfl rfl h35 (fun h => Bool.noConfusion (show false = true from h)) ?_
    repeat (first | refine o_mov rfl ?_)
    refine o_call rfl rfl p4 (fun h => Bool.noConfusion (show false = true from h)) ?_
    repeat (first | refine z_seq ?_ | refine z_region rfl ?_ | refine o_nil ?_ | refine u_seq ?_ | refine o_mov rfl ?_ | refine o_extract rfl rfl ?_)
    refine o_call rfl rfl eA (fun h => Bool.noConfusion (show false = true from h)) ?_
    repeat (first | refine o_gy rfl ?_ | refine o_mov rfl ?_ | refine o_un rfl rfl ?_)
    refine o_cmp rfl rfl rfl (fun h => absurd h (by simp)) fun _ => ?_
    repeat (first | refine o_gy rfl ?_ | refine o_mov rfl ?_ | refine o_pickf rfl rfl ?_)
    refine o_call rfl rfl eB (fun h => Bool.noConfusion (show false = true from h)) ?_
    repeat (first | refine o_gy rfl ?_ | refine o_mov rfl ?_ | refine o_pickf rfl rfl ?_ | refine o_un rfl rfl ?_)
    refine o_cmp rfl rfl rfl (fun h => absurd h (by simp)) fun _ => ?_
    repeat (first | refine z_seq ?_ | refine z_region rfl ?_ | refine o_nil ?_ | refine u_seq ?_ | refine z_skip ?_ | refine z_cf rfl ?_ | refine o_mov rfl ?_ | refine o_loadn rfl rfl rfl rfl ?_ | refine o_pickf rfl rfl ?_)
    refine o_call rfl rfl p5 (fun h => Bool.noConfusion (show false = true from h)) ?_
    repeat (first | refine z_seq ?_ | refine z_region rfl ?_ | refine o_nil ?_ | refine u_seq ?_ | refine o_mov rfl ?_ | refine o_loadn rfl rfl rfl rfl ?_ | refine o_extract rfl rfl ?_)
    refine o_call rfl rfl h35 (fun h => Bool.noConfusion (show false = true from h)) ?_
    repeat (first | refine o_mov rfl ?_)
    refine o_call rfl rfl p6 (fun h => Bool.noConfusion (show false = true from h)) ?_
    repeat (first | refine z_seq ?_ | refine z_region rfl ?_ | refine o_nil ?_ | refine u_seq ?_ | refine o_mov rfl ?_ | refine o_extract rfl rfl ?_)
    refine o_call rfl rfl eC (fun h => Bool.noConfusion (show false = true from h)) ?_
    repeat (first | refine o_gy rfl ?_ | refine o_mov rfl ?_)
    refine o_cmp rfl rfl rfl (fun _ => ?_) fun h => absurd h (by simp)
    repeat (first | refine o_gy rfl ?_ | refine o_mov rfl ?_ | refine o_pickt rfl rfl ?_)
    refine o_call rfl rfl haw (fun h => Bool.noConfusion (show false = true from h)) ?_
    repeat (first | refine o_nil ?_ | refine u_seq ?_ | refine z_ret ?_ | refine o_mov rfl ?_ | refine o_pickt rfl rfl ?_)
    exact u_end ⟨.inr rfl, _, rfl, rfl⟩

end Go.Proofs.Ytoiblgbaeglgoaa
