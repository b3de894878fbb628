/-
  WHETHER STROKES LEAD HOME: homing.Check, and the reference's.
-/
import Derived.Test.YtoiblgbaeglgoaaVH5
namespace Go.Proofs.Ytoiblgbaeglgoaa
open Go Go.Am

def chkS (l : List Ex) : List Sk → List Bool → Int
  | [], e => if idxE e = 0 then 0 else 3
  | s :: r, e => if s.a < 0 ∨ s.a ≥ e.length then 2 else if e.getD s.a.toNat false = s.o then 14 else if mayB l e s.a.toNat then chkS l r (flipE e s.a.toNat) else 22

def checkH (l : List Ex) (e : List Bool) (L : List Sk) : Int :=
  if guardC l e.length = 0 then (if L.length > 256 then 5 else if freeB l (posE e) then chkS l L e else 22) else guardC l e.length

def b47_0 : IC := .seq (.region [⟨(some 34), .bin .lss (.t 33) (.t 32), none⟩] none)
  (.seq (.cond (.t 34) (.skip)
  (.exit 0))
  (.seq (.block 1 (.seq (.region [⟨(some 35), .idxs 2 (.t 31) (.t 33), none⟩,
    ⟨(some 36), .load (some 2) (.t 35), none⟩,
    ⟨(some 11), .alloc [.int .i64 0, .bool false], none⟩,
    ⟨none, .store 2 (.t 11) (.t 36), none⟩] none)
  (.seq (.block 2 (.seq (.region [⟨(some 38), .faddr 0 (.t 11), none⟩,
    ⟨(some 39), .load none (.t 38), none⟩,
    ⟨(some 40), .bin .lss (.t 39) (.c (.int .i64 0)), none⟩,
    ⟨(some 41), .mov (.t 40), none⟩,
    ⟨(some 42), .faddr 0 (.t 11), some (41, false)⟩,
    ⟨(some 43), .load none (.t 42), some (41, false)⟩,
    ⟨(some 44), .mov (.t 7), some (41, false)⟩,
    ⟨(some 45), .bin .geq (.t 43) (.t 44), some (41, false)⟩,
    ⟨(some 46), .pick (.t 41) (.c (.bool true)) (.t 45), none⟩,
    ⟨(some 37), .mov (.t 46), none⟩] none)
  (.cond (.t 37) (.seq (.region [⟨(some 6), .mov (.c (.int .i64 2)), none⟩] none)
  (.ret))
  (.seq (.region [⟨(some 48), .mov (.t 9), none⟩,
    ⟨(some 49), .faddr 0 (.t 11), none⟩,
    ⟨(some 50), .load none (.t 49), none⟩,
    ⟨(some 51), .bin .shr (.t 48) (.t 50), none⟩,
    ⟨(some 52), .bin .and (.t 51) (.c (.int .i64 1)), none⟩,
    ⟨(some 53), .bin .eql (.t 52) (.c (.int .i64 1)), none⟩,
    ⟨(some 54), .faddr 1 (.t 11), none⟩,
    ⟨(some 55), .load none (.t 54), none⟩,
    ⟨(some 56), .eqb false (.t 53) (.t 55), none⟩,
    ⟨(some 47), .mov (.t 56), none⟩] (some [[], [], [1], [0, 2], [3], [4], [], [6], [5, 7], [8]]))
  (.cond (.t 47) (.seq (.region [⟨(some 6), .mov (.c (.int .i64 14)), none⟩] none)
  (.ret))
  (.seq (.region [⟨(some 58), .load (some 1) (.t 3), none⟩,
    ⟨(some 59), .mov (.t 7), none⟩,
    ⟨(some 60), .mov (.t 9), none⟩,
    ⟨(some 61), .faddr 0 (.t 11), none⟩,
    ⟨(some 62), .load none (.t 61), none⟩,
    ⟨(some 63), .call (.c (.fn 104 [] [])) [(.t 58), (.t 59), (.t 60), (.t 62)], none⟩,
    ⟨(some 64), .un .not (.t 63), none⟩,
    ⟨(some 57), .mov (.t 64), none⟩] none)
  (.cond (.t 57) (.seq (.region [⟨(some 6), .mov (.c (.int .i64 22)), none⟩] none)
  (.ret))
  (.skip))))))))
  (.region [⟨(some 65), .mov (.t 9), none⟩,
    ⟨(some 66), .faddr 0 (.t 11), none⟩,
    ⟨(some 67), .load none (.t 66), none⟩,
    ⟨(some 68), .bin .shl (.c (.int .i64 1)) (.t 67), none⟩,
    ⟨(some 69), .bin .xor (.t 65) (.t 68), none⟩,
    ⟨(some 9), .mov (.t 69), none⟩] none))))
  (.region [⟨(some 70), .bin .add (.t 33) (.c (.int .i64 1)), none⟩,
    ⟨(some 33), .mov (.t 70), none⟩] none)))

-- pneumatic/homing.Check
def ic47 : IC := .seq (.region [⟨(some 3), .box (.t 0), none⟩,
    ⟨(some 6), .mov (.c (.int .i64 0)), none⟩] none)
  (.seq (.region [⟨(some 12), .mov (.t 1), none⟩,
    ⟨(some 13), .len false (.t 12), none⟩,
    ⟨(some 7), .mov (.t 13), none⟩] none)
  (.seq (.seq (.region [⟨(some 14), .load (some 1) (.t 3), none⟩,
    ⟨(some 15), .mov (.t 7), none⟩,
    ⟨(some 16), .call (.c (.fn 80 [] [])) [(.t 14), (.t 15)], none⟩,
    ⟨(some 8), .mov (.t 16), none⟩] none)
  (.seq (.region [⟨(some 17), .mov (.t 8), none⟩,
    ⟨(some 18), .bin .neq (.t 17) (.c (.int .i64 0)), none⟩] none)
  (.cond (.t 18) (.seq (.region [⟨(some 19), .mov (.t 8), none⟩,
    ⟨(some 6), .mov (.t 19), none⟩] none)
  (.ret))
  (.skip))))
  (.seq (.seq (.region [⟨(some 20), .mov (.t 2), none⟩,
    ⟨(some 21), .len false (.t 20), none⟩,
    ⟨(some 22), .bin .gtr (.t 21) (.c (.int .i64 256)), none⟩] none)
  (.cond (.t 22) (.seq (.region [⟨(some 6), .mov (.c (.int .i64 5)), none⟩] none)
  (.ret))
  (.skip)))
  (.seq (.region [⟨(some 23), .mov (.t 1), none⟩,
    ⟨(some 24), .call (.c (.fn 93 [] [])) [(.t 23)], none⟩,
    ⟨(some 9), .mov (.t 24), none⟩] none)
  (.seq (.seq (.region [⟨(some 25), .load (some 1) (.t 3), none⟩,
    ⟨(some 26), .mov (.t 7), none⟩,
    ⟨(some 27), .mov (.t 9), none⟩,
    ⟨(some 28), .call (.c (.fn 95 [] [])) [(.t 26), (.t 27)], none⟩,
    ⟨(some 29), .call (.c (.fn 94 [] [])) [(.t 25), (.t 28)], none⟩,
    ⟨(some 30), .un .not (.t 29), none⟩] (some [[], [], [], [1, 2], [0, 3, 3], [4]]))
  (.cond (.t 30) (.seq (.region [⟨(some 6), .mov (.c (.int .i64 22)), none⟩] none)
  (.ret))
  (.skip)))
  (.seq (.seq (.region [⟨(some 31), .mov (.t 2), none⟩,
    ⟨(some 32), .len false (.t 31), none⟩,
    ⟨(some 33), .mov (.c (.int .i64 0)), none⟩] none)
  (.block 0 (.loop b47_0)))
  (.seq (.seq (.region [⟨(some 71), .mov (.t 9), none⟩,
    ⟨(some 72), .bin .neq (.t 71) (.c (.int .i64 0)), none⟩] none)
  (.cond (.t 72) (.seq (.region [⟨(some 6), .mov (.c (.int .i64 3)), none⟩] none)
  (.ret))
  (.skip)))
  (.seq (.region [⟨(some 6), .mov (.c (.int .i64 0)), none⟩] none)
  (.ret)))))))))
theorem fn47 : env0.fn 47 = some ⟨73, ic47, [.t 6]⟩ := by kernel_rfl

set_option maxHeartbeats 4000000 in
theorem check47 (l : List Ex) (hsl : ∀ y ∈ l, Slim y) (e : List Bool) (h4 : guardC l e.length = 0 → e.length ≤ 4) (L : List Sk) : PF Try.prog 47 [.agg [.vs (cXs l)], vsB e, .vs (cSs L)] (.int .i64 (checkH l e L)) := by
  have h28 := gcheck28 l hsl e.length
  have hel : (e.map fun b => ([.bool b] : List AV)).length = e.length := List.length_map ..
  have hLl : (cSs L).length = L.length := cSs_length L
  refine PF_of_Z env0_ok fn47 [(0, .agg [.vs (cXs l)]), (1, vsB e), (2, .vs (cSs L))] (by show 3 ≤ 73; decide) rfl fun w0 N0 => ?_
  unfold ic47 checkH
  repeat (first | refine z_seq ?_ | refine z_region rfl ?_ | refine o_nil ?_ | refine u_seq ?_ | refine o_mov rfl ?_ | refine o_loadn rfl rfl rfl rfl ?_ | refine o_len rfl rfl ?_ | refine o_box rfl rfl ?_)
  rw [hel]
  refine o_call rfl rfl h28 (fun h => Bool.noConfusion (show false = true from h)) ?_
  by_cases hg : guardC l e.length = 0
  · rw [if_pos hg, hg]
    obtain ⟨g1, g2, g3, g4⟩ := guardC_ok hg
    have h4 := h4 hg
    have h1 : 1 ≤ e.length := by omega
    repeat (first | refine z_seq ?_ | refine z_region rfl ?_ | refine o_nil ?_ | refine u_seq ?_ | refine z_skip ?_ | refine z_cf rfl ?_ | refine o_mov rfl ?_ | refine o_len rfl rfl ?_ | refine o_cmpf rfl rfl rfl ?_)
    by_cases hL : L.length > 256
    · rw [if_pos hL]
      refine o_cmp rfl rfl rfl (fun h => ?_) fun h => absurd h (by rw [hLl]; simp; omega)
      repeat (first | refine z_seq ?_ | refine z_region rfl ?_ | refine o_nil ?_ | refine u_seq ?_ | refine z_ct rfl ?_ | refine z_ret ?_ | refine u_ret_seq ?_ | refine o_mov rfl ?_)
      exact u_end ⟨.inr rfl, _, rfl, rfl⟩
    rw [if_neg hL]
    refine o_cmp rfl rfl rfl (fun h => absurd h (by rw [hLl]; simp; omega)) fun h => ?_
    repeat (first | refine z_seq ?_ | refine z_region rfl ?_ | refine o_nil ?_ | refine u_seq ?_ | refine z_skip ?_ | refine z_cf rfl ?_ | refine o_mov rfl ?_)
    refine o_call rfl rfl (index93 h1 h4) (fun h => Bool.noConfusion (show false = true from h)) ?_
    repeat (first | refine z_seq ?_ | refine o_nil ?_ | refine u_seq ?_ | refine o_mov rfl ?_)
    refine z_drawn env0_ok [(95, [.int .i64 (e.length : Nat), .int .i64 (idxE e : Nat)], vsI (posE e)), (94, [.agg [.vs (cXs l)], vsI (posE e)], .bool (freeB l (posE e)))] (fun x hx => by
      rcases List.mem_cons.1 hx with rfl | hx
      · exact pos95 h1 h4
      obtain rfl := List.mem_singleton.1 hx
      exact allowed94 l hsl (posE e) (posC_pos hg)) (fun f => Nat.beq f 95 || Nat.beq f 94) rfl rfl rfl ?_
    repeat (first | refine o_mov rfl ?_ | refine o_loadn rfl rfl rfl rfl ?_)
    refine o_call rfl rfl lookL_here (fun h => Bool.noConfusion (show false = true from h)) ?_
    refine o_call rfl rfl (lookL_next (by decide) lookL_here) (fun h => Bool.noConfusion (show false = true from h)) ?_
    cases hf : freeB l (posE e) with
    | false =>
      repeat (first | refine z_seq ?_ | refine z_region rfl ?_ | refine o_nil ?_ | refine u_seq ?_ | refine z_ct rfl ?_ | refine z_ret ?_ | refine u_ret_seq ?_ | refine o_mov rfl ?_ | refine o_un rfl rfl ?_)
      exact u_end ⟨.inr rfl, _, rfl, rfl⟩
    | true =>
      rw [if_pos rfl]
      repeat (first | refine z_seq ?_ | refine z_region rfl ?_ | refine o_nil ?_ | refine u_seq ?_ | refine z_block ?_ | refine z_skip ?_ | refine z_cf rfl ?_ | refine o_mov rfl ?_ | refine o_un rfl rfl ?_ | refine o_len rfl rfl ?_)
      refine z_loop (fun mm S => ∃ i e', mm = L.length - i ∧ i ≤ L.length ∧ e'.length = e.length ∧ chkS l L e = chkS l (L.drop i) e' ∧
          S = st 73 [(3, .vptr [.vs (cXs l)]), (7, .int .i64 (e.length : Nat)), (9, .int .i64 (idxE e' : Nat)), (31, .vs (cSs L)), (32, .int .i64 (cSs L).length), (33, .int .i64 (i : Nat))] [] 0 1) L.length
        (sub_renw [] [(0, 0, [.vs (cXs l)])] rfl rfl rfl (.cons rfl rfl .nil) .nil (l' := [(3, .vptr [.vs (cXs l)]), (7, .int .i64 (e.length : Nat)), (9, .int .i64 (idxE e : Nat)), (31, .vs (cSs L)), (32, .int .i64 (cSs L).length), (33, .int .i64 ((0 : Nat) : Int))]) (.cons rfl (.fptr rfl rfl) (.cons rfl (.same rfl) (.cons rfl (.same rfl) (.cons rfl (.same rfl) (.cons rfl (.same rfl) (.cons rfl (.same rfl) .nil))))))) ⟨0, e, rfl, Nat.zero_le _, rfl, rfl, rfl⟩ ?_
      rintro mm S ⟨i, e', rfl, hi, hel', hch, rfl⟩
      have hg' : guardC l e'.length = 0 := by rw [hel']; exact hg
      have h1' : 1 ≤ e'.length := by omega
      have h4' : e'.length ≤ 4 := by omega
      unfold b47_0
      repeat (first | refine z_seq ?_ | refine z_region rfl ?_)
      refine o_cmp rfl rfl rfl (fun h3 => ?_) fun h3 => ?_
      · have hlt : i < L.length := by
          have : ((i : Nat) : Int) < ((cSs L).length : Nat) := of_decide_eq_true h3
          rw [hLl] at this
          omega
        have hg2 := cSs_get hlt
        rw [List.drop_eq_getElem_cons hlt] at hch
        generalize L[i] = s at hg2 hch
        obtain ⟨sa, so⟩ := s
        have hg2 : (cSs L)[((i : Nat) : Int).toNat]? = some [.int .i64 sa, .bool so] := hg2
        rw [chkS] at hch
        simp only at hch
        repeat (first | refine z_seq ?_ | refine z_region rfl ?_ | refine o_nil ?_ | refine u_seq ?_ | refine z_block ?_ | refine z_skip ?_ | refine z_ct rfl ?_ | refine o_load rfl rfl ?_ | refine o_loadn rfl rfl rfl rfl ?_ | refine o_store rfl rfl rfl rfl rfl rfl rfl ?_ | refine o_faddrm rfl ?_ | refine o_alloc ?_ | refine o_idxs rfl rfl (by omega) (by assumption) rfl ?_)
        by_cases ha0 : sa < 0
        · rw [if_pos (.inl ha0)] at hch
          rw [hch]
          refine o_cmpt rfl rfl (by show some (AV.bool (decide (sa < 0))) = _; rw [decide_eq_true ha0]) ?_
          repeat (first | refine z_seq ?_ | refine z_region rfl ?_ | refine o_nil ?_ | refine u_seq ?_ | refine z_ct rfl ?_ | refine z_ret ?_ | refine u_ret_seq ?_ | refine u_ret_blk ?_ | refine o_gn rfl rfl ?_ | refine o_mov rfl ?_ | refine o_pickt rfl rfl ?_)
          refine u_out_ret ?_
          repeat (first | refine u_ret_seq ?_ | refine u_ret_blk ?_)
          exact u_end ⟨.inr rfl, _, rfl, rfl⟩
        refine o_cmpf rfl rfl (by show some (AV.bool (decide (sa < 0))) = _; rw [decide_eq_false ha0]) ?_
        repeat (first | refine o_gy rfl ?_ | refine o_mov rfl ?_ | refine o_load rfl rfl ?_ | refine o_faddrm rfl ?_)
        by_cases hal : sa ≥ (e.length : Int)
        · rw [if_pos (.inr (by omega))] at hch
          rw [hch]
          refine o_cmpt rfl rfl (by show some (AV.bool (decide (sa ≥ (e.length : Int)))) = _; rw [decide_eq_true hal]) ?_
          repeat (first | refine z_seq ?_ | refine z_region rfl ?_ | refine o_nil ?_ | refine u_seq ?_ | refine z_ct rfl ?_ | refine z_ret ?_ | refine u_ret_seq ?_ | refine u_ret_blk ?_ | refine o_mov rfl ?_ | refine o_pickf rfl rfl ?_)
          refine u_out_ret ?_
          repeat (first | refine u_ret_seq ?_ | refine u_ret_blk ?_)
          exact u_end ⟨.inr rfl, _, rfl, rfl⟩
        refine o_cmpf rfl rfl (by show some (AV.bool (decide (sa ≥ (e.length : Int)))) = _; rw [decide_eq_false hal]) ?_
        rw [if_neg (by omega)] at hch
        obtain ⟨a, rfl⟩ : ∃ a : Nat, sa = (a : Int) := ⟨sa.toNat, by omega⟩
        rw [Int.toNat_natCast] at hch
        have ha : a < e'.length := by omega
        repeat (first | refine z_seq ?_ | refine o_nil ?_ | refine u_seq ?_ | refine z_cf rfl ?_ | refine o_mov rfl ?_ | refine o_load rfl rfl ?_ | refine o_faddrm rfl ?_ | refine o_pickf rfl rfl ?_ | refine z_drawn0 env0_ok rfl rfl rfl ?_)
        refine o_bin (op := .shr) rfl rfl (shrE h1' h4' ha) ?_
        refine o_bin (op := .and) rfl rfl (andE h1' h4' ha) ?_
        refine o_bin (op := .eql) rfl rfl (eqE _) ?_
        repeat (first | refine o_load rfl rfl ?_ | refine o_faddrm rfl ?_)
        by_cases hb : e'.getD a false = so
        · rw [if_pos hb] at hch
          rw [hch]
          refine o_eqb rfl rfl (fun _ => ?_) fun h => absurd h (by rw [hb]; simp)
          repeat (first | refine z_seq ?_ | refine z_region rfl ?_ | refine o_nil ?_ | refine u_seq ?_ | refine z_ct rfl ?_ | refine z_ret ?_ | refine u_ret_seq ?_ | refine u_ret_blk ?_ | refine o_mov rfl ?_)
          refine u_out_ret ?_
          repeat (first | refine u_ret_seq ?_ | refine u_ret_blk ?_)
          exact u_end ⟨.inr rfl, _, rfl, rfl⟩
        rw [if_neg hb] at hch
        refine o_eqb rfl rfl (fun h => absurd (by simpa using h) hb) fun h => ?_
        repeat (first | refine z_seq ?_ | refine z_region rfl ?_ | refine o_nil ?_ | refine u_seq ?_ | refine z_cf rfl ?_ | refine o_mov rfl ?_ | refine o_load rfl rfl ?_ | refine o_loadn rfl rfl rfl rfl ?_ | refine o_faddrm rfl ?_)
        have hmay := may104 l hsl e' h1' h4' hg' a ha
        rw [hel'] at hmay
        refine o_call rfl rfl hmay (fun h => Bool.noConfusion (show false = true from h)) ?_
        cases hm : mayB l e' a with
        | false =>
          rw [hm, if_neg (by simp)] at hch
          rw [hch]
          repeat (first | refine z_seq ?_ | refine z_region rfl ?_ | refine o_nil ?_ | refine u_seq ?_ | refine z_ct rfl ?_ | refine z_ret ?_ | refine u_ret_seq ?_ | refine u_ret_blk ?_ | refine o_mov rfl ?_ | refine o_un rfl rfl ?_)
          refine u_out_ret ?_
          repeat (first | refine u_ret_seq ?_ | refine u_ret_blk ?_)
          exact u_end ⟨.inr rfl, _, rfl, rfl⟩
        | true =>
          rw [hm, if_pos rfl] at hch
          repeat (first | refine z_region rfl ?_ | refine o_nil ?_ | refine u_seq ?_ | refine u_blk ?_ | refine z_skip ?_ | refine z_cf rfl ?_ | refine o_mov rfl ?_ | refine o_load rfl rfl ?_ | refine o_faddrm rfl ?_ | refine o_un rfl rfl ?_)
          refine o_bin (op := .shl) rfl rfl (shl1 (by omega)) ?_
          refine o_bin (op := .xor) rfl rfl (xorE h1' h4' ha) ?_
          repeat (first | refine z_region rfl ?_ | refine o_nil ?_ | refine u_seq ?_ | refine u_blk ?_ | refine o_mov rfl ?_ | refine o_bin (op := .add) rfl rfl rfl ?_)
          rw [wrap_succ i (by omega)]
          exact u_round (show L.length - (i + 1) < L.length - i by omega) (sub_ren0 (.cons rfl (.same rfl) (.cons rfl (.same rfl) (.cons rfl (.same rfl) (.cons rfl (.same rfl) (.cons rfl (.same rfl) (.cons rfl (.same rfl) .nil))))))) ⟨i + 1, flipE e' a, rfl, hlt, by rw [flip_len, hel'], hch, rfl⟩
      · have hi2 : i = L.length := by
          have : ¬ ((i : Nat) : Int) < ((cSs L).length : Nat) := of_decide_eq_false h3
          rw [hLl] at this
          omega
        subst hi2
        rw [List.drop_length, chkS] at hch
        rw [hch]
        repeat (first | refine z_seq ?_ | refine o_nil ?_ | refine u_seq ?_ | refine z_cf rfl ?_ | refine z_exit ?_ | refine u_exit_seq ?_)
        refine u_out ?_
        repeat (first | refine z_seq ?_ | refine z_region rfl ?_ | refine u_seq ?_ | refine u_exit ?_ | refine o_mov rfl ?_)
        by_cases h0 : idxE e' = 0
        · rw [if_pos h0]
          refine o_cmp rfl rfl rfl (fun h => absurd h (by rw [h0]; simp)) fun _ => ?_
          repeat (first | refine z_seq ?_ | refine z_region rfl ?_ | refine o_nil ?_ | refine u_seq ?_ | refine z_skip ?_ | refine z_cf rfl ?_ | refine z_ret ?_ | refine o_mov rfl ?_)
          exact u_end ⟨.inr rfl, _, rfl, rfl⟩
        · rw [if_neg h0]
          refine o_cmp rfl rfl rfl (fun _ => ?_) fun h => absurd h (by simpa using h0)
          repeat (first | refine z_seq ?_ | refine z_region rfl ?_ | refine o_nil ?_ | refine u_seq ?_ | refine z_ct rfl ?_ | refine z_ret ?_ | refine u_ret_seq ?_ | refine o_mov rfl ?_)
          exact u_end ⟨.inr rfl, _, rfl, rfl⟩
  · rw [if_neg hg]
    repeat (first | refine z_seq ?_ | refine z_region rfl ?_ | refine o_nil ?_ | refine u_seq ?_ | refine o_mov rfl ?_)
    refine o_cmp rfl rfl rfl (fun h => ?_) fun h => absurd (by simpa using h) hg
    repeat (first | refine z_seq ?_ | refine z_region rfl ?_ | refine o_nil ?_ | refine u_seq ?_ | refine z_ct rfl ?_ | refine z_ret ?_ | refine u_ret_seq ?_ | refine o_mov rfl ?_)
    exact u_end ⟨.inr rfl, _, rfl, rfl⟩

end Go.Proofs.Ytoiblgbaeglgoaa
