/-
  WITHOUT AN EXPRESSION NO LEVEL IS GREATER: the plain law, and the walk.
-/
import Derived.Test.YtoiblgbaeglgoaaVH18
import Derived.Test.YtoiblgbaeglgoaaVCB
namespace Go.Proofs.Ytoiblgbaeglgoaa
open Go Go.Am

theorem idxs_empty (f : Ex → Bool) : ∀ (i : Nat) (l : List Ex), (idxs f i l).isEmpty = l.all fun y => !(f y)
  | _, [] => rfl
  | i, y :: l => by
    rw [idxs, List.all_cons, ← idxs_empty f (i + 1) l]
    cases f y <;> rfl

theorem free_sub {l m : List Ex} (hs : ∀ y ∈ m, y ∈ l) (p : List Int) (h : freeB l p = true) : freeB m p = true := by
  unfold freeB trues at h ⊢
  rw [idxs_empty] at h ⊢
  rw [List.all_eq_true] at h ⊢
  exact fun y hy => h y (hs y hy)

theorem may_sub {l m : List Ex} (hs : ∀ y ∈ m, y ∈ l) {e : List Bool} {i : Nat} (h : mayB l e i = true) : mayB m e i = true := by
  unfold mayB at h ⊢
  simp only [Bool.and_eq_true] at h ⊢
  exact ⟨⟨free_sub hs _ h.1.1, free_sub hs _ h.1.2⟩, free_sub hs _ h.2⟩

theorem mv_sub {l m : List Ex} (hs : ∀ y ∈ m, y ∈ l) {n k i : Nat} (h : i ∈ mv l n k) : i ∈ mv m n k := by
  obtain ⟨a, b⟩ := List.mem_filter.1 h
  exact List.mem_filter.2 ⟨a, may_sub hs b⟩

theorem lev_some {l : List Ex} {n : Nat} (h1 : 1 ≤ n) (h4 : n ≤ 4) {k : Nat} (hk : k < 2 ^ n) (h0 : 0 ≤ (levL l n).getD k 0) : freeB l (posE (bitsE n 0)) = true := by
  cases hf : freeB l (posE (bitsE n 0)) with
  | true => rfl
  | false =>
    have e : levL l n = List.replicate (2 ^ n) (-1) := by unfold levL; rw [hf]; rfl
    rw [e, rep_get h1 h4 k hk] at h0
    omega

theorem lev_mono {l m : List Ex} (hs : ∀ y ∈ m, y ∈ l) {n : Nat} (h1 : 1 ≤ n) (h4 : n ≤ 4) : ∀ (d k : Nat), k < 2 ^ n → (levL l n).getD k 0 = (d : Int) → 0 ≤ (levL m n).getD k 0 ∧ (levL m n).getD k 0 ≤ (d : Int)
  | 0, k, hk, hd => by
    have hf := lev_some (l := l) h1 h4 hk (by omega)
    obtain ⟨hL, _⟩ := lev_free h1 h4 hf
    obtain ⟨_, hm0⟩ := lev_free h1 h4 (free_sub hs _ hf)
    have := hL.zer k hk (by omega)
    subst this
    rw [hm0]
    omega
  | d + 1, k, hk, hd => by
    obtain ⟨y, hy, i, hi, e1, e2⟩ := (lev_any (l := l) h1 h4).pred k hk (by omega)
    obtain ⟨a, b⟩ := lev_mono hs h1 h4 d y hy (by omega)
    obtain ⟨c, e⟩ := (lev_any (l := m) h1 h4).step y hy a i (mv_sub hs hi)
    rw [e1] at c e
    omega

theorem RnC.topsH {live : Live} {fz : List (Nat × Nat × List AV)} : ∀ ys : List AV, RnC live fz ys (ys.map fun _ => .top)
  | [] => .nil
  | _ :: ys => .cons .top (RnC.topsH ys)

theorem RnC.cutH {live : Live} {fz : List (Nat × Nat × List AV)} {ys : List AV} : ∀ us : List AV, hasM.hasML us = false → RnC live fz (us ++ ys) (us ++ ys.map fun _ => .top)
  | [], _ => RnC.topsH ys
  | u :: us, h => by
    have h : (hasM u || hasM.hasML us) = false := h
    rw [Bool.or_eq_false_iff] at h
    exact .cons (.same h.1) (RnC.cutH us h.2)

theorem hasML_tops : ∀ ys : List AV, hasM.hasML (ys.map fun _ => AV.top) = false
  | [] => rfl
  | _ :: ys => by
    have := hasML_tops ys
    simp only [List.map_cons, hasM.hasML, this]
    rfl

theorem beq_neH {a b : Nat} (h : a ≠ b) : Nat.beq a b = false := by
  cases hb : Nat.beq a b with
  | false => rfl
  | true => exact absurd (Nat.eq_of_beq_eq_true hb) h

theorem guardC_part {l m : List Ex} {n : Int} (hs : ∀ y ∈ m, y ∈ l) (hl : m.length ≤ l.length) (h : guardC l n = 0) : guardC m n = 0 := by
  obtain ⟨g1, g2, g3, g4⟩ := guardC_ok h
  have hall : chkL (2 * n) m = 0 := by
    have : ∀ m : List Ex, (∀ y ∈ m, checkR y (2 * n) = 0) → chkL (2 * n) m = 0 := by
      intro m
      induction m with
      | nil => exact fun _ => rfl
      | cons y m ih =>
        intro hm
        rw [chkL, if_pos (hm y (List.mem_cons_self ..))]
        exact ih fun z hz => hm z (List.mem_cons_of_mem _ hz)
    exact this m fun y hy => g4 y (hs y hy)
  unfold guardC
  rw [if_neg (by omega), if_neg (by omega), hall]

def b7_0 : IC := .seq (.region [⟨(some 72), .bin .lss (.t 71) (.t 70), none⟩] none)
  (.seq (.cond (.t 72) (.skip)
  (.exit 0))
  (.seq (.block 1 (.seq (.region [⟨(some 73), .mov (.t 71), none⟩,
    ⟨(some 13), .mov (.t 73), none⟩] none)
  (.seq (.region [⟨(some 74), .mov (.t 9), none⟩,
    ⟨(some 75), .mov (.t 13), none⟩,
    ⟨(some 76), .idxs 1 (.t 74) (.t 75), none⟩,
    ⟨(some 77), .load none (.t 76), none⟩,
    ⟨(some 78), .bin .geq (.t 77) (.c (.int .i64 0)), none⟩,
    ⟨(some 79), .mov (.t 78), none⟩,
    ⟨(some 80), .mov (.t 11), some (79, true)⟩,
    ⟨(some 81), .mov (.t 13), some (79, true)⟩,
    ⟨(some 82), .idxs 1 (.t 80) (.t 81), some (79, true)⟩,
    ⟨(some 83), .load none (.t 82), some (79, true)⟩,
    ⟨(some 84), .bin .lss (.t 83) (.c (.int .i64 0)), some (79, true)⟩,
    ⟨(some 85), .mov (.t 84), some (79, true)⟩,
    ⟨(some 86), .mov (.t 11), some (85, false)⟩,
    ⟨(some 87), .mov (.t 13), some (85, false)⟩,
    ⟨(some 88), .idxs 1 (.t 86) (.t 87), some (85, false)⟩,
    ⟨(some 89), .load none (.t 88), some (85, false)⟩,
    ⟨(some 90), .mov (.t 9), some (85, false)⟩,
    ⟨(some 91), .mov (.t 13), some (85, false)⟩,
    ⟨(some 92), .idxs 1 (.t 90) (.t 91), some (85, false)⟩,
    ⟨(some 93), .load none (.t 92), some (85, false)⟩,
    ⟨(some 94), .bin .gtr (.t 89) (.t 93), some (85, false)⟩,
    ⟨(some 95), .pick (.t 85) (.c (.bool true)) (.t 94), some (79, true)⟩,
    ⟨(some 96), .pick (.t 79) (.t 95) (.c (.bool false)), none⟩] (some [[], [], [0, 1], [2], [3], [4], [5], [5], [6, 7, 5], [8, 5], [9, 5], [10, 5, 5], [11], [11], [12, 13, 11], [14, 11], [11], [11], [16, 17, 11], [18, 11], [15, 19, 11], [11, 20, 5], [5, 21]]))
  (.cond (.t 96) (.seq (.region [⟨(some 6), .mov (.c (.bool false)), none⟩] none)
  (.ret))
  (.skip)))))
  (.region [⟨(some 97), .bin .add (.t 71) (.c (.int .i64 1)), none⟩,
    ⟨(some 71), .mov (.t 97), none⟩] none)))

-- pneumatic/pneumaticlaw50.HomingEases
def ic7 : IC := .seq (.region [⟨(some 3), .box (.t 0), none⟩,
    ⟨(some 6), .mov (.c (.bool false)), none⟩] none)
  (.seq (.seq (.region [⟨(some 14), .load (some 1) (.t 3), none⟩,
    ⟨(some 15), .mov (.t 1), none⟩,
    ⟨(some 16), .call (.c (.fn 40 [] [])) [(.t 14), (.t 15)], none⟩,
    ⟨(some 17), .un .not (.t 16), none⟩,
    ⟨(some 18), .mov (.t 17), none⟩,
    ⟨(some 19), .faddr 0 (.t 3), some (18, false)⟩,
    ⟨(some 20), .load none (.t 19), some (18, false)⟩,
    ⟨(some 21), .len false (.t 20), some (18, false)⟩,
    ⟨(some 22), .bin .eql (.t 21) (.c (.int .i64 0)), some (18, false)⟩,
    ⟨(some 23), .pick (.t 18) (.c (.bool true)) (.t 22), none⟩] none)
  (.cond (.t 23) (.seq (.region [⟨(some 24), .call (.c (.fn 36 [] [])) [], none⟩,
    ⟨(some 6), .mov (.t 24), none⟩] none)
  (.ret))
  (.skip)))
  (.seq (.region [⟨(some 25), .mov (.t 2), none⟩,
    ⟨(some 26), .conv .i64 (.t 25), none⟩,
    ⟨(some 27), .faddr 0 (.t 3), none⟩,
    ⟨(some 28), .load none (.t 27), none⟩,
    ⟨(some 29), .len false (.t 28), none⟩,
    ⟨(some 30), .bin .rem (.t 26) (.t 29), none⟩,
    ⟨(some 7), .mov (.t 30), none⟩] none)
  (.seq (.region [⟨(some 31), .faddr 0 (.t 3), none⟩,
    ⟨(some 32), .load none (.t 31), none⟩,
    ⟨(some 33), .call (.c (.fn 26 [] [])) [(.t 32)], none⟩,
    ⟨(some 34), .mov (.t 7), none⟩,
    ⟨(some 35), .mov (.t 7), none⟩,
    ⟨(some 36), .bin .add (.t 35) (.c (.int .i64 1)), none⟩,
    ⟨(some 37), .call (.c (.fn 41 [] [])) [(.t 33), (.t 34), (.t 36)], none⟩,
    ⟨(some 38), .build [.nils] [(0, 1, (.t 37))], none⟩,
    ⟨(some 8), .alloc [.nils], none⟩,
    ⟨none, .store 1 (.t 8) (.t 38), none⟩] none)
  (.seq (.region [⟨(some 40), .load (some 1) (.t 3), none⟩,
    ⟨(some 41), .mov (.t 1), none⟩,
    ⟨(some 42), .call (.c (.fn 42 [] [])) [(.t 40), (.t 41)], none⟩,
    ⟨(some 39), .mov (.t 42), none⟩,
    ⟨(some 43), .extract (.t 39) 0, none⟩,
    ⟨(some 44), .extract (.t 39) 1, none⟩,
    ⟨(some 9), .mov (.t 43), none⟩,
    ⟨(some 10), .mov (.t 44), none⟩] none)
  (.seq (.region [⟨(some 46), .load (some 1) (.t 8), none⟩,
    ⟨(some 47), .mov (.t 1), none⟩,
    ⟨(some 48), .call (.c (.fn 42 [] [])) [(.t 46), (.t 47)], none⟩,
    ⟨(some 45), .mov (.t 48), none⟩,
    ⟨(some 49), .extract (.t 45) 0, none⟩,
    ⟨(some 50), .extract (.t 45) 1, none⟩,
    ⟨(some 11), .mov (.t 49), none⟩,
    ⟨(some 12), .mov (.t 50), none⟩] none)
  (.seq (.seq (.region [⟨(some 51), .mov (.t 10), none⟩,
    ⟨(some 52), .mov (.t 12), none⟩,
    ⟨(some 53), .bin .add (.t 51) (.t 52), none⟩,
    ⟨(some 54), .bin .neq (.t 53) (.c (.int .i64 0)), none⟩,
    ⟨(some 55), .mov (.t 54), none⟩,
    ⟨(some 56), .mov (.t 9), some (55, false)⟩,
    ⟨(some 57), .len false (.t 56), some (55, false)⟩,
    ⟨(some 58), .mov (.t 1), some (55, false)⟩,
    ⟨(some 59), .bin .shl (.c (.int .i64 1)) (.t 58), some (55, false)⟩,
    ⟨(some 60), .bin .neq (.t 57) (.t 59), some (55, false)⟩,
    ⟨(some 61), .pick (.t 55) (.c (.bool true)) (.t 60), none⟩,
    ⟨(some 62), .mov (.t 61), none⟩,
    ⟨(some 63), .mov (.t 11), some (62, false)⟩,
    ⟨(some 64), .len false (.t 63), some (62, false)⟩,
    ⟨(some 65), .mov (.t 1), some (62, false)⟩,
    ⟨(some 66), .bin .shl (.c (.int .i64 1)) (.t 65), some (62, false)⟩,
    ⟨(some 67), .bin .neq (.t 64) (.t 66), some (62, false)⟩,
    ⟨(some 68), .pick (.t 62) (.c (.bool true)) (.t 67), none⟩] none)
  (.cond (.t 68) (.seq (.region [⟨(some 6), .mov (.c (.bool false)), none⟩] none)
  (.ret))
  (.skip)))
  (.seq (.seq (.region [⟨(some 69), .mov (.t 9), none⟩,
    ⟨(some 70), .len false (.t 69), none⟩,
    ⟨(some 71), .mov (.c (.int .i64 0)), none⟩] none)
  (.block 0 (.loop b7_0)))
  (.seq (.region [⟨(some 98), .call (.c (.fn 36 [] [])) [], none⟩,
    ⟨(some 6), .mov (.t 98), none⟩] none)
  (.ret)))))))))
theorem fn7 : env0.fn 7 = some ⟨99, ic7, [.t 6]⟩ := by kernel_rfl

def rest7 : IC := .seq (.seq (.region [⟨(some 69), .mov (.t 9), none⟩,
    ⟨(some 70), .len false (.t 69), none⟩,
    ⟨(some 71), .mov (.c (.int .i64 0)), none⟩] none)
  (.block 0 (.loop b7_0)))
  (.seq (.region [⟨(some 98), .call (.c (.fn 36 [] [])) [], none⟩,
    ⟨(some 6), .mov (.t 98), none⟩] none)
  (.ret))

set_option maxHeartbeats 4000000 in
theorem rest7_ok {w0 : World} {N0 n : Nat} {A B : List Int} (hA : A.length = 2 ^ n) (hB : B.length = 2 ^ n) (hp : 2 ^ n ≤ 16) (hle : ∀ k, k < 2 ^ n → 0 ≤ A.getD k 0 → 0 ≤ B.getD k 0 ∧ B.getD k 0 ≤ A.getD k 0) :
    Zm Try.prog w0 N0 none rest7 (st 99 [(9, vsI A), (11, vsI B)] [] 0 1) [] (fun e S' => (e = .normal ∨ e = .ret) ∧ ∃ v0, S'.leave.res [.t 6] = some v0 ∧ (⟨0, .nil, S'.leave.heap, S'.leave.next, S'.leave.clk, []⟩ : AS).view VD v0 = .bool true) := by
  have hAl : (A.map fun z => ([.int .i64 z] : List AV)).length = A.length := List.length_map ..
  unfold rest7
  repeat (first | refine z_seq ?_ | refine z_region rfl ?_ | refine o_nil ?_ | refine u_seq ?_ | refine z_block ?_ | refine o_mov rfl ?_ | refine o_len rfl rfl ?_)
  rw [hAl]
  refine z_loop (fun mm S => ∃ k, mm = A.length - k ∧ k ≤ A.length ∧ S = st 99 [(9, vsI A), (11, vsI B), (70, .int .i64 (A.length : Nat)), (71, .int .i64 (k : Nat))] [] 0 1) A.length
    (sub_ren0 (l' := [(9, vsI A), (11, vsI B), (70, .int .i64 (A.length : Nat)), (71, .int .i64 ((0 : Nat) : Int))]) (.cons rfl (.same rfl) (.cons rfl (.same rfl) (.cons rfl (.same rfl) (.cons rfl (.same rfl) .nil))))) ⟨0, rfl, Nat.zero_le _, rfl⟩ ?_
  rintro mm S ⟨k, rfl, hk, rfl⟩
  unfold b7_0
  repeat (first | refine z_seq ?_ | refine z_region rfl ?_)
  refine o_cmp rfl rfl rfl (fun h3 => ?_) fun h3 => ?_
  · have hlt : k < A.length := by have := of_decide_eq_true h3; omega
    have gA := vsI_getD (D := A) hlt
    have gB := vsI_getD (D := B) (k := k) (by omega)
    have hl := hle k (by omega)
    repeat (first | refine z_seq ?_ | refine z_region rfl ?_ | refine o_nil ?_ | refine u_seq ?_ | refine z_block ?_ | refine z_skip ?_ | refine z_ct rfl ?_ | refine o_mov rfl ?_ | refine o_load rfl rfl ?_ | refine z_drawn0 env0_ok rfl rfl rfl ?_ | refine o_idxs rfl rfl (by omega) (by assumption) rfl ?_)
    by_cases h0 : A.getD k 0 ≥ 0
    · obtain ⟨h5, h6⟩ := hl h0
      refine o_cmpt rfl rfl (by show some (AV.bool (decide _)) = _; rw [decide_eq_true h0]) ?_
      repeat (first | refine o_gy rfl ?_ | refine o_mov rfl ?_ | refine o_load rfl rfl ?_ | refine o_idxs rfl rfl (by omega) (by assumption) rfl ?_)
      refine o_cmpf rfl rfl (by show some (AV.bool (decide (B.getD k 0 < 0))) = _; rw [decide_eq_false (by omega)]) ?_
      repeat (first | refine o_gy rfl ?_ | refine o_mov rfl ?_ | refine o_load rfl rfl ?_ | refine o_idxs rfl rfl (by omega) (by assumption) rfl ?_)
      refine o_cmpf rfl rfl (by show some (AV.bool (decide (B.getD k 0 > A.getD k 0))) = _; rw [decide_eq_false (by omega)]) ?_
      repeat (first | refine z_region rfl ?_ | refine o_nil ?_ | refine u_seq ?_ | refine u_blk ?_ | refine z_skip ?_ | refine z_cf rfl ?_ | refine o_gy rfl ?_ | refine o_mov rfl ?_ | refine o_pickt rfl rfl ?_ | refine o_pickf rfl rfl ?_ | refine o_bin (op := .add) rfl rfl rfl ?_)
      rw [wrap_succ k (by omega)]
      exact u_round (show A.length - (k + 1) < A.length - k by omega) (sub_ren0 (.cons rfl (.same rfl) (.cons rfl (.same rfl) (.cons rfl (.same rfl) (.cons rfl (.same rfl) .nil))))) ⟨k + 1, rfl, hlt, rfl⟩
    · refine o_cmpf rfl rfl (by show some (AV.bool (decide _)) = _; rw [decide_eq_false h0]) ?_
      repeat (first | refine z_region rfl ?_ | refine o_nil ?_ | refine u_seq ?_ | refine u_blk ?_ | refine z_skip ?_ | refine z_cf rfl ?_ | refine o_gn rfl rfl ?_ | refine o_gt rfl ?_ | refine o_mov rfl ?_ | refine o_pickf rfl rfl ?_ | refine o_bin (op := .add) rfl rfl rfl ?_)
      rw [wrap_succ k (by omega)]
      exact u_round (show A.length - (k + 1) < A.length - k by omega) (sub_ren0 (.cons rfl (.same rfl) (.cons rfl (.same rfl) (.cons rfl (.same rfl) (.cons rfl (.same rfl) .nil))))) ⟨k + 1, rfl, hlt, rfl⟩
  · repeat (first | refine z_seq ?_ | refine o_nil ?_ | refine u_seq ?_ | refine z_cf rfl ?_ | refine z_exit ?_ | refine u_exit_seq ?_)
    refine u_out ?_
    repeat (first | refine z_seq ?_ | refine z_region rfl ?_ | refine u_seq ?_ | refine u_exit ?_)
    refine o_call rfl rfl awake36' (fun h => Bool.noConfusion (show false = true from h)) ?_
    repeat (first | refine o_nil ?_ | refine u_seq ?_ | refine z_ret ?_ | refine o_mov rfl ?_)
    exact u_end ⟨.inr rfl, _, rfl, rfl⟩

end Go.Proofs.Ytoiblgbaeglgoaa
