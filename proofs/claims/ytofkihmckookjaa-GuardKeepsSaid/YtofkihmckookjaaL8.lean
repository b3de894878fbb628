/-
  GuardPlaces: THE LAW'S OWN WALK.
-/
import Derived.Test.YtofkihmckookjaaPB
import Derived.Test.YtofkihmckookjaaBase
namespace Go.Proofs.Ytofkihmckookjaa
open Go Go.Am

-- pneumatic/pneumaticlaw49.GuardPlaces
def ic8 : IC := .seq (.region [⟨(some 2), .box (.t 0), none⟩,
    ⟨(some 4), .mov (.c (.bool false)), none⟩] none)
  (.seq (.seq (.region [⟨(some 13), .load (some 1) (.t 2), none⟩,
    ⟨(some 14), .call (.c (.fn 11 [] [])) [(.t 13)], none⟩,
    ⟨(some 15), .un .not (.t 14), none⟩,
    ⟨(some 16), .mov (.t 15), none⟩,
    ⟨(some 17), .mov (.t 1), some (16, false)⟩,
    ⟨(some 18), .bin .gtr (.t 17) (.c (.int .i64 4)), some (16, false)⟩,
    ⟨(some 19), .mov (.t 18), some (16, false)⟩,
    ⟨(some 20), .mov (.t 1), some (19, true)⟩,
    ⟨(some 21), .bin .leq (.t 20) (.c (.int .i64 6)), some (19, true)⟩,
    ⟨(some 22), .pick (.t 19) (.t 21) (.c (.bool false)), some (16, false)⟩,
    ⟨(some 23), .pick (.t 16) (.c (.bool true)) (.t 22), none⟩] none)
  (.cond (.t 23) (.seq (.region [⟨(some 24), .call (.c (.fn 13 [] [])) [], none⟩,
    ⟨(some 4), .mov (.t 24), none⟩] none)
  (.ret))
  (.skip)))
  (.seq (.region [⟨(some 26), .load (some 1) (.t 2), none⟩,
    ⟨(some 27), .mov (.t 1), none⟩,
    ⟨(some 28), .call (.c (.fn 34 [] [])) [(.t 26), (.t 27)], none⟩,
    ⟨(some 25), .mov (.t 28), none⟩,
    ⟨(some 29), .extract (.t 25) 0, none⟩,
    ⟨(some 30), .extract (.t 25) 1, none⟩,
    ⟨(some 5), .mov (.t 29), none⟩,
    ⟨(some 6), .mov (.t 30), none⟩] none)
  (.seq (.region [⟨(some 32), .load (some 1) (.t 2), none⟩,
    ⟨(some 33), .mov (.t 1), none⟩,
    ⟨(some 34), .call (.c (.fn 35 [] [])) [(.t 32), (.t 33)], none⟩,
    ⟨(some 31), .mov (.t 34), none⟩,
    ⟨(some 35), .extract (.t 31) 0, none⟩,
    ⟨(some 36), .extract (.t 31) 1, none⟩,
    ⟨(some 7), .mov (.t 35), none⟩,
    ⟨(some 8), .mov (.t 36), none⟩] none)
  (.seq (.region [⟨(some 38), .load (some 1) (.t 2), none⟩,
    ⟨(some 39), .mov (.t 1), none⟩,
    ⟨(some 40), .call (.c (.fn 36 [] [])) [(.t 38), (.t 39)], none⟩,
    ⟨(some 37), .mov (.t 40), none⟩,
    ⟨(some 41), .extract (.t 37) 0, none⟩,
    ⟨(some 42), .extract (.t 37) 1, none⟩,
    ⟨(some 9), .mov (.t 41), none⟩,
    ⟨(some 10), .mov (.t 42), none⟩] none)
  (.seq (.region [⟨(some 44), .load (some 1) (.t 2), none⟩,
    ⟨(some 45), .mov (.t 1), none⟩,
    ⟨(some 46), .call (.c (.fn 37 [] [])) [(.t 44), (.t 45)], none⟩,
    ⟨(some 43), .mov (.t 46), none⟩,
    ⟨(some 47), .extract (.t 43) 0, none⟩,
    ⟨(some 48), .extract (.t 43) 1, none⟩,
    ⟨(some 11), .mov (.t 47), none⟩,
    ⟨(some 12), .mov (.t 48), none⟩] none)
  (.seq (.region [⟨(some 49), .mov (.t 5), none⟩,
    ⟨(some 50), .mov (.t 7), none⟩,
    ⟨(some 51), .call (.c (.fn 38 [] [])) [(.t 49), (.t 50)], none⟩,
    ⟨(some 52), .mov (.t 51), none⟩,
    ⟨(some 53), .mov (.t 6), some (52, true)⟩,
    ⟨(some 54), .mov (.t 8), some (52, true)⟩,
    ⟨(some 55), .bin .eql (.t 53) (.t 54), some (52, true)⟩,
    ⟨(some 56), .pick (.t 52) (.t 55) (.c (.bool false)), none⟩,
    ⟨(some 57), .mov (.t 56), none⟩,
    ⟨(some 58), .mov (.t 9), some (57, true)⟩,
    ⟨(some 59), .mov (.t 11), some (57, true)⟩,
    ⟨(some 60), .call (.c (.fn 16 [] [])) [(.t 58), (.t 59)], some (57, true)⟩,
    ⟨(some 61), .pick (.t 57) (.t 60) (.c (.bool false)), none⟩,
    ⟨(some 62), .mov (.t 61), none⟩,
    ⟨(some 63), .mov (.t 10), some (62, true)⟩,
    ⟨(some 64), .mov (.t 12), some (62, true)⟩,
    ⟨(some 65), .bin .eql (.t 63) (.t 64), some (62, true)⟩,
    ⟨(some 66), .pick (.t 62) (.t 65) (.c (.bool false)), none⟩,
    ⟨(some 67), .mov (.t 66), none⟩,
    ⟨(some 68), .call (.c (.fn 13 [] [])) [], some (67, true)⟩,
    ⟨(some 69), .pick (.t 67) (.t 68) (.c (.bool false)), none⟩,
    ⟨(some 4), .mov (.t 69), none⟩] none)
  (.ret)))))))
theorem fn8 : env0.fn 8 = some ⟨70, ic8, [.t 4]⟩ := by kernel_rfl


def rest8 : IC := .seq (.region [⟨(some 26), .load (some 1) (.t 2), none⟩,
    ⟨(some 27), .mov (.t 1), none⟩,
    ⟨(some 28), .call (.c (.fn 34 [] [])) [(.t 26), (.t 27)], none⟩,
    ⟨(some 25), .mov (.t 28), none⟩,
    ⟨(some 29), .extract (.t 25) 0, none⟩,
    ⟨(some 30), .extract (.t 25) 1, none⟩,
    ⟨(some 5), .mov (.t 29), none⟩,
    ⟨(some 6), .mov (.t 30), none⟩] none)
  (.seq (.region [⟨(some 32), .load (some 1) (.t 2), none⟩,
    ⟨(some 33), .mov (.t 1), none⟩,
    ⟨(some 34), .call (.c (.fn 35 [] [])) [(.t 32), (.t 33)], none⟩,
    ⟨(some 31), .mov (.t 34), none⟩,
    ⟨(some 35), .extract (.t 31) 0, none⟩,
    ⟨(some 36), .extract (.t 31) 1, none⟩,
    ⟨(some 7), .mov (.t 35), none⟩,
    ⟨(some 8), .mov (.t 36), none⟩] none)
  (.seq (.region [⟨(some 38), .load (some 1) (.t 2), none⟩,
    ⟨(some 39), .mov (.t 1), none⟩,
    ⟨(some 40), .call (.c (.fn 36 [] [])) [(.t 38), (.t 39)], none⟩,
    ⟨(some 37), .mov (.t 40), none⟩,
    ⟨(some 41), .extract (.t 37) 0, none⟩,
    ⟨(some 42), .extract (.t 37) 1, none⟩,
    ⟨(some 9), .mov (.t 41), none⟩,
    ⟨(some 10), .mov (.t 42), none⟩] none)
  (.seq (.region [⟨(some 44), .load (some 1) (.t 2), none⟩,
    ⟨(some 45), .mov (.t 1), none⟩,
    ⟨(some 46), .call (.c (.fn 37 [] [])) [(.t 44), (.t 45)], none⟩,
    ⟨(some 43), .mov (.t 46), none⟩,
    ⟨(some 47), .extract (.t 43) 0, none⟩,
    ⟨(some 48), .extract (.t 43) 1, none⟩,
    ⟨(some 11), .mov (.t 47), none⟩,
    ⟨(some 12), .mov (.t 48), none⟩] none)
  (.seq (.region [⟨(some 49), .mov (.t 5), none⟩,
    ⟨(some 50), .mov (.t 7), none⟩,
    ⟨(some 51), .call (.c (.fn 38 [] [])) [(.t 49), (.t 50)], none⟩,
    ⟨(some 52), .mov (.t 51), none⟩,
    ⟨(some 53), .mov (.t 6), some (52, true)⟩,
    ⟨(some 54), .mov (.t 8), some (52, true)⟩,
    ⟨(some 55), .bin .eql (.t 53) (.t 54), some (52, true)⟩,
    ⟨(some 56), .pick (.t 52) (.t 55) (.c (.bool false)), none⟩,
    ⟨(some 57), .mov (.t 56), none⟩,
    ⟨(some 58), .mov (.t 9), some (57, true)⟩,
    ⟨(some 59), .mov (.t 11), some (57, true)⟩,
    ⟨(some 60), .call (.c (.fn 16 [] [])) [(.t 58), (.t 59)], some (57, true)⟩,
    ⟨(some 61), .pick (.t 57) (.t 60) (.c (.bool false)), none⟩,
    ⟨(some 62), .mov (.t 61), none⟩,
    ⟨(some 63), .mov (.t 10), some (62, true)⟩,
    ⟨(some 64), .mov (.t 12), some (62, true)⟩,
    ⟨(some 65), .bin .eql (.t 63) (.t 64), some (62, true)⟩,
    ⟨(some 66), .pick (.t 62) (.t 65) (.c (.bool false)), none⟩,
    ⟨(some 67), .mov (.t 66), none⟩,
    ⟨(some 68), .call (.c (.fn 13 [] [])) [], some (67, true)⟩,
    ⟨(some 69), .pick (.t 67) (.t 68) (.c (.bool false)), none⟩,
    ⟨(some 4), .mov (.t 69), none⟩] none)
  (.ret)))))

theorem combs_len4 (m : Nat) (h : m ≤ 4) (at_ : List Int) (ha : at_.length ≤ 9) : (combs (List.replicate m at_)).length ≤ 6561 := by
  have h1 := cmb_len (List.replicate m at_) [[]] 1 (fun c hc => by obtain rfl := List.eq_of_mem_replicate hc; exact ha) (Nat.le_refl _)
  rw [cmb_combs, List.length_replicate, Nat.one_mul] at h1
  have : m = 0 ∨ m = 1 ∨ m = 2 ∨ m = 3 ∨ m = 4 := by omega
  rcases this with rfl | rfl | rfl | rfl | rfl <;> exact Nat.le_trans h1 (by decide)

set_option maxHeartbeats 2000000 in
theorem main8 {w0 : World} {N0 : Nat} (l : List Ex) (hsl : ∀ y ∈ l, Slim y) (n : Int) (h4 : guardC l n = 0 → n ≤ 4) :
    Zm Try.prog w0 N0 none rest8 (st 70 [(1, .int .i64 n), (2, .vptr [.vs (cXs l)])] [] 0 1) [] fun e S' => (e = .normal ∨ e = .ret) ∧ ∃ v0, S'.leave.res [.t 4] = some v0 ∧ (⟨0, .nil, S'.leave.heap, S'.leave.next, S'.leave.clk, []⟩ : AS).view VD v0 = .bool true := by
  have h34 := places34 l hsl n h4
  have h35 := places35 l hsl n h4
  have h36 := redundant36 l hsl n h4
  have h37 := redundant37 l hsl n h4
  unfold placesV at h34 h35
  unfold redV at h36 h37
  unfold rest8
  by_cases hg : guardC l n = 0
  · rw [if_pos hg] at h34 h35 h36 h37
    obtain ⟨g1, g2, g3, g4⟩ := guardC_ok hg
    have h4 := h4 hg
    have hA : (allowedL l n.toNat).length ≤ 6561 := Nat.le_trans (List.length_filter_le ..) (combs_len4 _ (by omega) _ (by decide))
    have hR : ∀ x ∈ allowedL l n.toNat, x.length ≤ 100000 := fun x hx => by
      have := combs_row _ x (List.mem_filter.1 hx).1
      rw [List.length_replicate] at this
      omega
    have h38 := same38 (allowedL l n.toNat) (allowedL l n.toNat) (by omega) (by omega) hR hR
    have hD := redF_len (combs (List.replicate n.toNat [0, 1, 2])) l l.length
    have h16 := equal16 (redF (combs (List.replicate n.toNat [0, 1, 2])) l l.length) (redF (combs (List.replicate n.toNat [0, 1, 2])) l l.length) (by omega)
    rw [decide_eq_true rfl] at h38 h16
    generalize allowedL l n.toNat = A at h34 h35 h38
    generalize redF (combs (List.replicate n.toNat [0, 1, 2])) l l.length = R at h36 h37 h16
    repeat (first | refine z_seq ?_ | refine z_region rfl ?_ | refine o_mov rfl ?_ | refine o_loadn rfl rfl rfl rfl ?_)
    refine o_call rfl rfl h34 (fun h => Bool.noConfusion (show false = true from h)) ?_
    repeat (first | refine z_seq ?_ | refine z_region rfl ?_ | refine o_nil ?_ | refine u_seq ?_ | refine o_mov rfl ?_ | refine o_loadn rfl rfl rfl rfl ?_ | refine o_extract rfl rfl ?_)
    refine o_call rfl rfl h35 (fun h => Bool.noConfusion (show false = true from h)) ?_
    repeat (first | refine z_seq ?_ | refine z_region rfl ?_ | refine o_nil ?_ | refine u_seq ?_ | refine o_mov rfl ?_ | refine o_loadn rfl rfl rfl rfl ?_ | refine o_extract rfl rfl ?_)
    refine o_call rfl rfl h36 (fun h => Bool.noConfusion (show false = true from h)) ?_
    repeat (first | refine z_seq ?_ | refine z_region rfl ?_ | refine o_nil ?_ | refine u_seq ?_ | refine o_mov rfl ?_ | refine o_loadn rfl rfl rfl rfl ?_ | refine o_extract rfl rfl ?_)
    refine o_call rfl rfl h37 (fun h => Bool.noConfusion (show false = true from h)) ?_
    repeat (first | refine z_seq ?_ | refine z_region rfl ?_ | refine o_nil ?_ | refine u_seq ?_ | refine o_mov rfl ?_ | refine o_extract rfl rfl ?_)
    refine o_call rfl rfl h38 (fun h => Bool.noConfusion (show false = true from h)) ?_
    repeat (first | refine o_gy rfl ?_ | refine o_mov rfl ?_ | refine o_pickt rfl rfl ?_ | refine o_cmpt rfl rfl rfl ?_)
    refine o_call rfl rfl h16 (fun h => Bool.noConfusion (show false = true from h)) ?_
    repeat (first | refine o_gy rfl ?_ | refine o_mov rfl ?_ | refine o_pickt rfl rfl ?_ | refine o_cmpt rfl rfl rfl ?_)
    refine o_call rfl rfl awake13 (fun h => Bool.noConfusion (show false = true from h)) ?_
    repeat (first | refine o_nil ?_ | refine u_seq ?_ | refine z_ret ?_ | refine o_mov rfl ?_ | refine o_pickt rfl rfl ?_)
    exact u_end ⟨.inr rfl, _, rfl, rfl⟩
  · rw [if_neg hg] at h34 h35 h36 h37
    have h38 := same38 [] [] (by decide) (by decide) (fun x hx => by cases hx) (fun x hx => by cases hx)
    have h16 := equal16 [] [] (by decide)
    rw [decide_eq_true rfl] at h38 h16
    generalize guardC l n = g at h34 h35 h36 h37
    have hgg : decide (g = g) = true := decide_eq_true rfl
    repeat (first | refine z_seq ?_ | refine z_region rfl ?_ | refine o_mov rfl ?_ | refine o_loadn rfl rfl rfl rfl ?_)
    refine o_call rfl rfl h34 (fun h => Bool.noConfusion (show false = true from h)) ?_
    repeat (first | refine z_seq ?_ | refine z_region rfl ?_ | refine o_nil ?_ | refine u_seq ?_ | refine o_mov rfl ?_ | refine o_loadn rfl rfl rfl rfl ?_ | refine o_extract rfl rfl ?_)
    refine o_call rfl rfl h35 (fun h => Bool.noConfusion (show false = true from h)) ?_
    repeat (first | refine z_seq ?_ | refine z_region rfl ?_ | refine o_nil ?_ | refine u_seq ?_ | refine o_mov rfl ?_ | refine o_loadn rfl rfl rfl rfl ?_ | refine o_extract rfl rfl ?_)
    refine o_call rfl rfl h36 (fun h => Bool.noConfusion (show false = true from h)) ?_
    repeat (first | refine z_seq ?_ | refine z_region rfl ?_ | refine o_nil ?_ | refine u_seq ?_ | refine o_mov rfl ?_ | refine o_loadn rfl rfl rfl rfl ?_ | refine o_extract rfl rfl ?_)
    refine o_call rfl rfl h37 (fun h => Bool.noConfusion (show false = true from h)) ?_
    repeat (first | refine z_seq ?_ | refine z_region rfl ?_ | refine o_nil ?_ | refine u_seq ?_ | refine o_mov rfl ?_ | refine o_extract rfl rfl ?_)
    refine o_call rfl rfl h38 (fun h => Bool.noConfusion (show false = true from h)) ?_
    repeat (first | refine o_gy rfl ?_ | refine o_mov rfl ?_)
    refine o_cmp rfl rfl rfl (fun _ => ?_) fun h => absurd (hgg.symm.trans h) (by decide)
    repeat (first | refine o_gy rfl ?_ | refine o_mov rfl ?_ | refine o_pickt rfl rfl ?_)
    refine o_call rfl rfl h16 (fun h => Bool.noConfusion (show false = true from h)) ?_
    repeat (first | refine o_gy rfl ?_ | refine o_mov rfl ?_ | refine o_pickt rfl rfl ?_)
    refine o_cmp rfl rfl rfl (fun _ => ?_) fun h => absurd (hgg.symm.trans h) (by decide)
    repeat (first | refine o_gy rfl ?_ | refine o_mov rfl ?_ | refine o_pickt rfl rfl ?_)
    refine o_call rfl rfl awake13 (fun h => Bool.noConfusion (show false = true from h)) ?_
    repeat (first | refine o_nil ?_ | refine u_seq ?_ | refine z_ret ?_ | refine o_mov rfl ?_ | refine o_pickt rfl rfl ?_)
    exact u_end ⟨.inr rfl, _, rfl, rfl⟩

set_option maxHeartbeats 2000000 in
theorem law8 (l : List Ex) (hlen : l.length < 9223372036854775808) (hsl : ∀ y ∈ l, Slim y) (n : Int) : PF Try.prog 8 [.agg [.vs (cXs l)], .int .i64 n] (.bool true) := by
  have h11 := few11 l hlen hsl
  refine PF_of_Z env0_ok fn8 [(0, .agg [.vs (cXs l)]), (1, .int .i64 n)] (by show 2 ≤ 70; decide) rfl fun w0 N0 => ?_
  unfold ic8
  repeat (first | refine z_seq ?_ | refine z_region rfl ?_ | refine o_nil ?_ | refine u_seq ?_ | refine o_mov rfl ?_ | refine o_loadn rfl rfl rfl rfl ?_ | refine o_box rfl rfl ?_)
  refine o_call rfl rfl h11 (fun h => Bool.noConfusion (show false = true from h)) ?_
  cases hf : fewB l with
  | false =>
    repeat (first | refine z_seq ?_ | refine z_region rfl ?_ | refine o_nil ?_ | refine u_seq ?_ | refine z_ct rfl ?_ | refine o_gn rfl rfl ?_ | refine o_gt rfl ?_ | refine o_mov rfl ?_ | refine o_pickt rfl rfl ?_ | refine o_un rfl rfl ?_)
    refine o_call rfl rfl awake13 (fun h => Bool.noConfusion (show false = true from h)) ?_
    repeat (first | refine o_nil ?_ | refine u_seq ?_ | refine z_ret ?_ | refine u_ret_seq ?_ | refine o_mov rfl ?_)
    exact u_end ⟨.inr rfl, _, rfl, rfl⟩
  | true =>
    repeat (first | refine o_gy rfl ?_ | refine o_mov rfl ?_ | refine o_un rfl rfl ?_)
    refine o_cmp rfl rfl rfl (fun h => ?_) fun h => ?_
    · repeat (first | refine o_gy rfl ?_ | refine o_mov rfl ?_)
      refine o_cmp rfl rfl rfl (fun h2 => ?_) fun h2 => ?_
      · repeat (first | refine z_seq ?_ | refine z_region rfl ?_ | refine o_nil ?_ | refine u_seq ?_ | refine z_ct rfl ?_ | refine o_gy rfl ?_ | refine o_pickt rfl rfl ?_ | refine o_pickf rfl rfl ?_)
        refine o_call rfl rfl awake13 (fun h => Bool.noConfusion (show false = true from h)) ?_
        repeat (first | refine o_nil ?_ | refine u_seq ?_ | refine z_ret ?_ | refine u_ret_seq ?_ | refine o_mov rfl ?_)
        exact u_end ⟨.inr rfl, _, rfl, rfl⟩
      · have h2 : ¬ n ≤ 6 := of_decide_eq_false h2
        repeat (first | refine o_pickt rfl rfl ?_ | refine o_pickf rfl rfl ?_ | refine o_nil ?_ | refine u_seq ?_ | refine z_cf rfl ?_ | refine o_gy rfl ?_)
        refine z_skip (u_seq ?_)
        exact z_renw [] [(0, 0, [.vs (cXs l)])] [(1, .int .i64 n), (2, .vptr [.vs (cXs l)])] rfl (.cons rfl rfl .nil) .nil (.cons rfl (.same rfl) (.cons rfl (.fptr rfl rfl) .nil)) (main8 l hsl n fun hg => by have := (guardC_ok hg).2.1; omega)
    · have h2 : ¬ n > 4 := of_decide_eq_false h
      repeat (first | refine o_pickf rfl rfl ?_ | refine o_mov rfl ?_ | refine o_nil ?_ | refine u_seq ?_ | refine z_cf rfl ?_ | refine o_gy rfl ?_ | refine o_gn rfl rfl ?_)
      refine z_skip (u_seq ?_)
      exact z_renw [] [(0, 0, [.vs (cXs l)])] [(1, .int .i64 n), (2, .vptr [.vs (cXs l)])] rfl (.cons rfl rfl .nil) .nil (.cons rfl (.same rfl) (.cons rfl (.fptr rfl rfl) .nil)) (main8 l hsl n fun _ => by omega)

end Go.Proofs.Ytofkihmckookjaa
