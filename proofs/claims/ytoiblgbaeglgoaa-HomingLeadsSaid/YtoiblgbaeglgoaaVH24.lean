/-
  LEVELS LEAD HOME: the law's walk.
-/
import Derived.Test.YtoiblgbaeglgoaaVH23
namespace Go.Proofs.Ytoiblgbaeglgoaa
open Go Go.Am

def b12_2 : IC := .seq (.region [⟨(some 110), .bin .lss (.t 109) (.t 108), none⟩] none)
  (.seq (.cond (.t 110) (.skip)
  (.exit 2))
  (.seq (.block 3 (.seq (.region [⟨(some 111), .idxs 1 (.t 107) (.t 109), none⟩,
    ⟨(some 112), .load none (.t 111), none⟩,
    ⟨(some 14), .mov (.t 112), none⟩] none)
  (.seq (.region [⟨(some 113), .mov (.t 9), none⟩,
    ⟨(some 114), .faddr 0 (.t 11), none⟩,
    ⟨(some 115), .load none (.t 114), none⟩,
    ⟨(some 116), .mov (.t 14), none⟩,
    ⟨(some 117), .idxs 1 (.t 113) (.t 115), none⟩,
    ⟨none, .store 1 (.t 117) (.t 116), none⟩] none)
  (.seq (.region [⟨(some 119), .load (some 1) (.t 2), none⟩,
    ⟨(some 120), .mov (.t 9), none⟩,
    ⟨(some 121), .call (.c (.fn 25 [] [])) [(.t 119), (.t 120)], none⟩,
    ⟨(some 118), .mov (.t 121), none⟩,
    ⟨(some 122), .extract (.t 118) 0, none⟩,
    ⟨(some 123), .extract (.t 118) 1, none⟩,
    ⟨(some 15), .mov (.t 122), none⟩,
    ⟨(some 16), .mov (.t 123), none⟩] none)
  (.seq (.region [⟨(some 124), .mov (.t 16), none⟩,
    ⟨(some 125), .bin .neq (.t 124) (.c (.int .i64 0)), none⟩,
    ⟨(some 126), .mov (.t 125), none⟩,
    ⟨(some 127), .mov (.t 15), some (126, false)⟩,
    ⟨(some 128), .un .not (.t 127), some (126, false)⟩,
    ⟨(some 129), .pick (.t 126) (.c (.bool true)) (.t 128), none⟩] none)
  (.cond (.t 129) (.seq (.region [⟨(some 4), .mov (.c (.bool false)), none⟩] none)
  (.ret))
  (.skip)))))))
  (.region [⟨(some 130), .bin .add (.t 109) (.c (.int .i64 1)), none⟩,
    ⟨(some 109), .mov (.t 130), none⟩] none)))

def b12_0 : IC := .seq (.region [⟨(some 91), .bin .lss (.t 90) (.t 89), none⟩] none)
  (.seq (.cond (.t 91) (.skip)
  (.exit 0))
  (.seq (.block 1 (.seq (.region [⟨(some 92), .idxs 2 (.t 88) (.t 90), none⟩,
    ⟨(some 93), .load (some 2) (.t 92), none⟩,
    ⟨(some 11), .alloc [.int .i64 0, .bool false], none⟩,
    ⟨none, .store 2 (.t 11) (.t 93), none⟩] none)
  (.seq (.seq (.region [⟨(some 94), .faddr 0 (.t 11), none⟩,
    ⟨(some 95), .load none (.t 94), none⟩,
    ⟨(some 96), .bin .lss (.t 95) (.c (.int .i64 0)), none⟩,
    ⟨(some 97), .mov (.t 96), none⟩,
    ⟨(some 98), .faddr 0 (.t 11), some (97, false)⟩,
    ⟨(some 99), .load none (.t 98), some (97, false)⟩,
    ⟨(some 100), .mov (.t 5), some (97, false)⟩,
    ⟨(some 101), .bin .geq (.t 99) (.t 100), some (97, false)⟩,
    ⟨(some 102), .pick (.t 97) (.c (.bool true)) (.t 101), none⟩] none)
  (.cond (.t 102) (.seq (.region [⟨(some 4), .mov (.c (.bool false)), none⟩] none)
  (.ret))
  (.skip)))
  (.seq (.region [⟨(some 103), .bslice 1 2 [.int .i64 0, .int .i64 0] [(0, 1, (.c (.int .i64 3))), (1, 1, (.c (.int .i64 0)))], none⟩,
    ⟨(some 12), .mov (.t 103), none⟩] none)
  (.seq (.seq (.region [⟨(some 104), .faddr 1 (.t 11), none⟩,
    ⟨(some 105), .load none (.t 104), none⟩] none)
  (.cond (.t 105) (.region [⟨(some 106), .bslice 1 2 [.int .i64 0, .int .i64 0] [(0, 1, (.c (.int .i64 1))), (1, 1, (.c (.int .i64 2)))], none⟩,
    ⟨(some 12), .mov (.t 106), none⟩] none)
  (.skip)))
  (.seq (.region [⟨(some 107), .mov (.t 12), none⟩,
    ⟨(some 108), .len false (.t 107), none⟩,
    ⟨(some 109), .mov (.c (.int .i64 0)), none⟩] none)
  (.block 2 (.loop b12_2))))))))
  (.region [⟨(some 131), .bin .add (.t 90) (.c (.int .i64 1)), none⟩,
    ⟨(some 90), .mov (.t 131), none⟩] none)))

-- pneumatic/pneumaticlaw50.HomingLeads
def ic12 : IC := .seq (.region [⟨(some 2), .box (.t 0), none⟩,
    ⟨(some 4), .mov (.c (.bool false)), none⟩] none)
  (.seq (.region [⟨(some 17), .mov (.t 1), none⟩,
    ⟨(some 18), .len false (.t 17), none⟩,
    ⟨(some 5), .mov (.t 18), none⟩] none)
  (.seq (.seq (.region [⟨(some 19), .load (some 1) (.t 2), none⟩,
    ⟨(some 20), .mov (.t 5), none⟩,
    ⟨(some 21), .call (.c (.fn 40 [] [])) [(.t 19), (.t 20)], none⟩,
    ⟨(some 22), .un .not (.t 21), none⟩] none)
  (.cond (.t 22) (.seq (.region [⟨(some 23), .call (.c (.fn 36 [] [])) [], none⟩,
    ⟨(some 4), .mov (.t 23), none⟩] none)
  (.ret))
  (.skip)))
  (.seq (.region [⟨(some 25), .load (some 1) (.t 2), none⟩,
    ⟨(some 26), .mov (.t 5), none⟩,
    ⟨(some 27), .call (.c (.fn 42 [] [])) [(.t 25), (.t 26)], none⟩,
    ⟨(some 24), .mov (.t 27), none⟩,
    ⟨(some 28), .extract (.t 24) 0, none⟩,
    ⟨(some 29), .extract (.t 24) 1, none⟩,
    ⟨(some 6), .mov (.t 28), none⟩,
    ⟨(some 7), .mov (.t 29), none⟩] none)
  (.seq (.seq (.region [⟨(some 30), .mov (.t 7), none⟩,
    ⟨(some 31), .bin .neq (.t 30) (.c (.int .i64 0)), none⟩,
    ⟨(some 32), .mov (.t 31), none⟩,
    ⟨(some 33), .mov (.t 6), some (32, false)⟩,
    ⟨(some 34), .len false (.t 33), some (32, false)⟩,
    ⟨(some 35), .mov (.t 5), some (32, false)⟩,
    ⟨(some 36), .bin .shl (.c (.int .i64 1)) (.t 35), some (32, false)⟩,
    ⟨(some 37), .bin .neq (.t 34) (.t 36), some (32, false)⟩,
    ⟨(some 38), .pick (.t 32) (.c (.bool true)) (.t 37), none⟩,
    ⟨(some 39), .mov (.t 38), none⟩,
    ⟨(some 40), .load (some 1) (.t 2), some (39, false)⟩,
    ⟨(some 41), .mov (.t 5), some (39, false)⟩,
    ⟨(some 42), .mov (.t 6), some (39, false)⟩,
    ⟨(some 43), .call (.c (.fn 60 [] [])) [(.t 40), (.t 41), (.t 42)], some (39, false)⟩,
    ⟨(some 44), .bin .neq (.t 43) (.c (.int .i64 0)), some (39, false)⟩,
    ⟨(some 45), .pick (.t 39) (.c (.bool true)) (.t 44), none⟩] none)
  (.cond (.t 45) (.seq (.region [⟨(some 4), .mov (.c (.bool false)), none⟩] none)
  (.ret))
  (.skip)))
  (.seq (.region [⟨(some 47), .load (some 1) (.t 2), none⟩,
    ⟨(some 48), .mov (.t 1), none⟩,
    ⟨(some 49), .call (.c (.fn 37 [] [])) [(.t 47), (.t 48)], none⟩,
    ⟨(some 46), .mov (.t 49), none⟩,
    ⟨(some 50), .extract (.t 46) 0, none⟩,
    ⟨(some 51), .extract (.t 46) 1, none⟩,
    ⟨(some 8), .mov (.t 50), none⟩,
    ⟨(some 7), .mov (.t 51), none⟩] none)
  (.seq (.seq (.region [⟨(some 52), .mov (.t 7), none⟩,
    ⟨(some 53), .bin .neq (.t 52) (.c (.int .i64 0)), none⟩] none)
  (.cond (.t 53) (.seq (.region [⟨(some 54), .mov (.t 7), none⟩,
    ⟨(some 55), .bin .eql (.t 54) (.c (.int .i64 22)), none⟩,
    ⟨(some 56), .mov (.t 55), none⟩,
    ⟨(some 57), .mov (.t 7), some (56, false)⟩,
    ⟨(some 58), .bin .eql (.t 57) (.c (.int .i64 6)), some (56, false)⟩,
    ⟨(some 59), .pick (.t 56) (.c (.bool true)) (.t 58), none⟩,
    ⟨(some 60), .mov (.t 59), none⟩,
    ⟨(some 61), .mov (.t 6), some (60, true)⟩,
    ⟨(some 62), .mov (.t 1), some (60, true)⟩,
    ⟨(some 63), .call (.c (.fn 61 [] [])) [(.t 62)], some (60, true)⟩,
    ⟨(some 64), .idxs 1 (.t 61) (.t 63), some (60, true)⟩,
    ⟨(some 65), .load none (.t 64), some (60, true)⟩,
    ⟨(some 66), .bin .eql (.t 65) (.c (.int .i64 (-1))), some (60, true)⟩,
    ⟨(some 67), .pick (.t 60) (.t 66) (.c (.bool false)), none⟩,
    ⟨(some 68), .mov (.t 67), none⟩,
    ⟨(some 69), .call (.c (.fn 36 [] [])) [], some (68, true)⟩,
    ⟨(some 70), .pick (.t 68) (.t 69) (.c (.bool false)), none⟩,
    ⟨(some 4), .mov (.t 70), none⟩] none)
  (.ret))
  (.skip)))
  (.seq (.seq (.region [⟨(some 71), .mov (.t 8), none⟩,
    ⟨(some 72), .len false (.t 71), none⟩,
    ⟨(some 73), .mov (.t 6), none⟩,
    ⟨(some 74), .mov (.t 1), none⟩,
    ⟨(some 75), .call (.c (.fn 61 [] [])) [(.t 74)], none⟩,
    ⟨(some 76), .idxs 1 (.t 73) (.t 75), none⟩,
    ⟨(some 77), .load none (.t 76), none⟩,
    ⟨(some 78), .bin .neq (.t 72) (.t 77), none⟩,
    ⟨(some 79), .mov (.t 78), none⟩,
    ⟨(some 80), .load (some 1) (.t 2), some (79, false)⟩,
    ⟨(some 81), .mov (.t 1), some (79, false)⟩,
    ⟨(some 82), .mov (.t 8), some (79, false)⟩,
    ⟨(some 83), .call (.c (.fn 47 [] [])) [(.t 80), (.t 81), (.t 82)], some (79, false)⟩,
    ⟨(some 84), .bin .neq (.t 83) (.c (.int .i64 0)), some (79, false)⟩,
    ⟨(some 85), .pick (.t 79) (.c (.bool true)) (.t 84), none⟩] none)
  (.cond (.t 85) (.seq (.region [⟨(some 4), .mov (.c (.bool false)), none⟩] none)
  (.ret))
  (.skip)))
  (.seq (.region [⟨(some 86), .mov (.t 1), none⟩,
    ⟨(some 87), .call (.c (.fn 56 [] [])) [(.t 86)], none⟩,
    ⟨(some 9), .mov (.t 87), none⟩] none)
  (.seq (.seq (.region [⟨(some 88), .mov (.t 8), none⟩,
    ⟨(some 89), .len false (.t 88), none⟩,
    ⟨(some 90), .mov (.c (.int .i64 0)), none⟩] none)
  (.block 0 (.loop b12_0)))
  (.seq (.region [⟨(some 132), .call (.c (.fn 36 [] [])) [], none⟩,
    ⟨(some 4), .mov (.t 132), none⟩] none)
  (.ret)))))))))))
theorem fn12 : env0.fn 12 = some ⟨133, ic12, [.t 4]⟩ := by kernel_rfl

def s12 (l : List Ex) (q : List Int) (n : Nat) (L : List Sk) (t : Nat) (ex : List (Nat × AV)) : AS := st 133 ([(2, .vptr [.vs (cXs l)]), (5, .int .i64 (n : Nat)), (9, .ms 0 0 1 0 n none), (88, .vs (cSs L)), (89, .int .i64 (L.length : Nat)), (90, .int .i64 (t : Nat))] ++ ex) [(0, (0, .cells (q.map (AV.int .i64))))] 1 1

def w12 (e : List Bool) (a : Nat) : Nat → List Int
  | 0 => posE e
  | 1 => wayE e a
  | _ => posE (flipE e a)

set_option maxHeartbeats 8000000 in
theorem law12h (l : List Ex) (hlen : l.length < 9223372036854775808) (hsl : ∀ y ∈ l, Slim y) (e : List Bool) : PF Try.prog 12 [.agg [.vs (cXs l)], vsB e] (.bool true) := by
  have hright := right40 l hlen hsl e.length
  have hel : (e.map fun b => ([.bool b] : List AV)).length = e.length := List.length_map ..
  have haw := awake36'
  refine PF_of_Z env0_ok fn12 [(0, .agg [.vs (cXs l)]), (1, vsB e)] (by show 2 ≤ 133; decide) rfl fun w0 N0 => ?_
  unfold ic12
  repeat (first | refine z_seq ?_ | refine z_region rfl ?_ | refine o_nil ?_ | refine u_seq ?_ | refine o_mov rfl ?_ | refine o_loadn rfl rfl rfl rfl ?_ | refine o_len rfl rfl ?_ | refine o_box rfl rfl ?_)
  rw [hel]
  refine o_call rfl rfl hright (fun h => Bool.noConfusion (show false = true from h)) ?_
  cases hr : rightB l e.length with
  | false =>
    repeat (first | refine z_seq ?_ | refine z_region rfl ?_ | refine o_nil ?_ | refine u_seq ?_ | refine z_ct rfl ?_ | refine o_un rfl rfl ?_)
    refine o_call rfl rfl haw (fun h => Bool.noConfusion (show false = true from h)) ?_
    repeat (first | refine o_nil ?_ | refine u_seq ?_ | refine z_ret ?_ | refine u_ret_seq ?_ | refine o_mov rfl ?_)
    exact u_end ⟨.inr rfl, _, rfl, rfl⟩
  | true =>
    obtain ⟨r1, r2, r3, hg⟩ := right_ok hr
    have h1 : 1 ≤ e.length := by omega
    have h4 : e.length ≤ 4 := by omega
    have hD := lev_any (l := l) h1 h4
    have p1 := levels42 l hsl (e.length : Nat) fun _ => by omega
    rw [levV, if_pos hg, Int.toNat_natCast] at p1
    have hA := hD.len
    have p2 := verify60 l hsl h1 h4 hg (levL l e.length) hA (fun z hz => ⟨hD.lo z hz, hD.hi z hz⟩) (fun k hk => lev_prv l h1 h4 hk)
    have p3 := find37 l hsl e fun _ => h4
    have p4 := index61 h1 h4
    have hix := idx_lt h1 h4
    have hbi := bits_idx h1 h4
    have hlo := hD.lo _ hix
    have hhi := hD.hi _ hix
    have hp4 := pow4 h4
    have hAl : ((levL l e.length).map fun z => ([.int .i64 z] : List AV)).length = 2 ^ e.length := by rw [List.length_map, hA]
    have gk := vsI_getD (D := levL l e.length) (k := idxE e) (by omega)
    repeat (first | refine z_seq ?_ | refine z_region rfl ?_ | refine o_nil ?_ | refine u_seq ?_ | refine z_skip ?_ | refine z_cf rfl ?_ | refine o_mov rfl ?_ | refine o_loadn rfl rfl rfl rfl ?_ | refine o_un rfl rfl ?_)
    refine o_call rfl rfl p1 (fun h => Bool.noConfusion (show false = true from h)) ?_
    repeat (first | refine z_seq ?_ | refine z_region rfl ?_ | refine o_nil ?_ | refine u_seq ?_ | refine o_gy rfl ?_ | refine o_mov rfl ?_ | refine o_len rfl rfl ?_ | refine o_extract rfl rfl ?_ | refine o_cmpf rfl rfl rfl ?_)
    rw [hAl]
    refine o_bin (op := .shl) rfl rfl (shl4 h4) ?_
    refine o_gy rfl ?_
    refine o_cmp rfl rfl rfl (fun h => absurd h (by simp)) fun _ => ?_
    repeat (first | refine o_gy rfl ?_ | refine o_mov rfl ?_ | refine o_loadn rfl rfl rfl rfl ?_ | refine o_pickf rfl rfl ?_)
    refine o_call rfl rfl p2 (fun h => Bool.noConfusion (show false = true from h)) ?_
    repeat (first | refine z_seq ?_ | refine z_region rfl ?_ | refine o_nil ?_ | refine u_seq ?_ | refine z_skip ?_ | refine z_cf rfl ?_ | refine o_gy rfl ?_ | refine o_mov rfl ?_ | refine o_loadn rfl rfl rfl rfl ?_ | refine o_pickf rfl rfl ?_ | refine o_cmpf rfl rfl rfl ?_)
    unfold findV at p3
    rw [if_pos hg] at p3
    cases hf : freeB l (posE e) with
    | false =>
      have hsh := (lev_prv l h1 h4 hix).shut (by rw [hbi]; exact hf)
      rw [hf, if_neg (by decide)] at p3
      rw [hsh] at gk
      refine o_call rfl rfl p3 (fun h => Bool.noConfusion (show false = true from h)) ?_
      repeat (first | refine z_seq ?_ | refine z_region rfl ?_ | refine o_nil ?_ | refine u_seq ?_ | refine z_ct rfl ?_ | refine o_gy rfl ?_ | refine o_gn rfl rfl ?_ | refine o_mov rfl ?_ | refine o_pickt rfl rfl ?_ | refine o_extract rfl rfl ?_ | refine o_cmpt rfl rfl rfl ?_)
      refine o_call rfl rfl p4 (fun h => Bool.noConfusion (show false = true from h)) ?_
      repeat (first | refine o_gy rfl ?_ | refine o_mov rfl ?_ | refine o_load rfl rfl ?_ | refine o_pickt rfl rfl ?_ | refine o_cmpt rfl rfl rfl ?_ | refine o_idxs rfl rfl (by omega) (by assumption) rfl ?_)
      refine o_call rfl rfl haw (fun h => Bool.noConfusion (show false = true from h)) ?_
      repeat (first | refine o_nil ?_ | refine u_seq ?_ | refine z_ret ?_ | refine u_ret_seq ?_ | refine o_mov rfl ?_ | refine o_pickt rfl rfl ?_)
      exact u_end ⟨.inr rfl, _, rfl, rfl⟩
    | true =>
      rw [hf, if_pos rfl] at p3
      by_cases h0 : (levL l e.length).getD (idxE e) 0 < 0
      · rw [if_pos h0] at p3
        rw [show (levL l e.length).getD (idxE e) 0 = -1 by omega] at gk
        refine o_call rfl rfl p3 (fun h => Bool.noConfusion (show false = true from h)) ?_
        repeat (first | refine z_seq ?_ | refine z_region rfl ?_ | refine o_nil ?_ | refine u_seq ?_ | refine z_ct rfl ?_ | refine o_gy rfl ?_ | refine o_mov rfl ?_ | refine o_pickf rfl rfl ?_ | refine o_extract rfl rfl ?_ | refine o_cmpt rfl rfl rfl ?_ | refine o_cmpf rfl rfl rfl ?_)
        refine o_call rfl rfl p4 (fun h => Bool.noConfusion (show false = true from h)) ?_
        repeat (first | refine o_gy rfl ?_ | refine o_mov rfl ?_ | refine o_load rfl rfl ?_ | refine o_pickt rfl rfl ?_ | refine o_cmpt rfl rfl rfl ?_ | refine o_idxs rfl rfl (by omega) (by assumption) rfl ?_)
        refine o_call rfl rfl haw (fun h => Bool.noConfusion (show false = true from h)) ?_
        repeat (first | refine o_nil ?_ | refine u_seq ?_ | refine z_ret ?_ | refine u_ret_seq ?_ | refine o_mov rfl ?_ | refine o_pickt rfl rfl ?_)
        exact u_end ⟨.inr rfl, _, rfl, rfl⟩
      · rw [if_neg h0] at p3
        have hd : (levL l e.length).getD (idxE e) 0 = ((((levL l e.length).getD (idxE e) 0).toNat : Nat) : Int) := by omega
        have hln := homeP_leng h1 h4 hD _ _ hix hd
        have hck := homeP_chk h1 h4 hD _ _ hix hd
        rw [hbi] at hck
        have hLn : (homeP l e.length (levL l e.length) ((levL l e.length).getD (idxE e) 0).toNat (idxE e)).length ≤ 100 := by omega
        rw [hd] at gk
        rw [← hln] at gk
        generalize homeP l e.length (levL l e.length) ((levL l e.length).getD (idxE e) 0).toNat (idxE e) = L at *
        have hLl : (cSs L).length = L.length := cSs_length L
        have p5 := check47 l hsl e (fun _ => h4) L
        rw [checkH, if_pos hg, if_neg (by omega), if_pos hf, hck] at p5
        refine o_call rfl rfl p3 (fun h => Bool.noConfusion (show false = true from h)) ?_
        repeat (first | refine z_seq ?_ | refine z_region rfl ?_ | refine o_nil ?_ | refine u_seq ?_ | refine z_skip ?_ | refine z_cf rfl ?_ | refine o_mov rfl ?_ | refine o_len rfl rfl ?_ | refine o_extract rfl rfl ?_ | refine o_cmpf rfl rfl rfl ?_)
        refine o_call rfl rfl p4 (fun h => Bool.noConfusion (show false = true from h)) ?_
        repeat (first | refine o_load rfl rfl ?_ | refine o_idxs rfl rfl (by omega) (by assumption) rfl ?_)
        refine o_cmp rfl rfl rfl (fun h => absurd h (by rw [hLl]; simp)) fun _ => ?_
        repeat (first | refine o_gy rfl ?_ | refine o_mov rfl ?_ | refine o_loadn rfl rfl rfl rfl ?_)
        refine o_call rfl rfl p5 (fun h => Bool.noConfusion (show false = true from h)) ?_
        repeat (first | refine z_seq ?_ | refine z_region rfl ?_ | refine o_nil ?_ | refine u_seq ?_ | refine z_skip ?_ | refine z_cf rfl ?_ | refine o_gy rfl ?_ | refine o_mov rfl ?_ | refine o_pickf rfl rfl ?_ | refine o_cmpf rfl rfl rfl ?_)
        refine o_own rfl rfl (pos56o h1 h4) (flatL_ints _) ?_
        repeat (first | refine z_seq ?_ | refine z_region rfl ?_ | refine o_nil ?_ | refine u_seq ?_ | refine z_block ?_ | refine o_mov rfl ?_ | refine o_len rfl rfl ?_)
        rw [hLl]
        refine z_loop (fun mm S => ∃ t e', mm = L.length - t ∧ t ≤ L.length ∧ e'.length = e.length ∧ chkS l (L.drop t) e' = 0 ∧ S = s12 l (posE e') e.length L t []) L.length
          (sub_renw [(some (1, 1), (posE e).map (AV.int .i64))] [(0, 0, [.vs (cXs l)])] rfl rfl rfl (.cons rfl rfl .nil) (.cons rfl (.keep (hasML_intl _)) .nil) (l' := [(2, .vptr [.vs (cXs l)]), (5, .int .i64 (e.length : Nat)), (9, .ms 0 0 1 0 e.length none), (88, .vs (cSs L)), (89, .int .i64 (L.length : Nat)), (90, .int .i64 ((0 : Nat) : Int))]) (.cons rfl (.fptr rfl rfl) (.cons rfl (.same rfl) (.cons rfl (.ms rfl) (.cons rfl (.same rfl) (.cons rfl (.same rfl) (.cons rfl (.same rfl) .nil))))))) ⟨0, e, rfl, Nat.zero_le _, rfl, by rw [List.drop_zero]; exact hck, rfl⟩ ?_
        rintro mm S ⟨t, e', rfl, ht, hel', hch, rfl⟩
        have hg' : guardC l e'.length = 0 := by rw [hel']; exact hg
        have h1' : 1 ≤ e'.length := by omega
        have h4' : e'.length ≤ 4 := by omega
        unfold b12_0 s12
        repeat (first | refine z_seq ?_ | refine z_region rfl ?_)
        refine o_cmp rfl rfl rfl (fun h3 => ?_) fun h3 => ?_
        · have hlt : t < L.length := by have := of_decide_eq_true h3; omega
          have hg2 := cSs_get hlt
          rw [List.drop_eq_getElem_cons hlt] at hch
          generalize L[t] = s at hg2 hch
          obtain ⟨sa, so⟩ := s
          have hg2 : (cSs L)[((t : Nat) : Int).toNat]? = some [.int .i64 sa, .bool so] := hg2
          rw [chkS] at hch
          simp only at hch
          by_cases ha0 : sa < 0 ∨ sa ≥ (e'.length : Int)
          · rw [if_pos ha0] at hch
            cases hch
          rw [if_neg ha0] at hch
          obtain ⟨a, rfl⟩ : ∃ a : Nat, sa = (a : Int) := ⟨sa.toNat, by omega⟩
          rw [Int.toNat_natCast] at hch
          have ha : a < e'.length := by omega
          by_cases hb : e'.getD a false = so
          · rw [if_pos hb] at hch
            cases hch
          rw [if_neg hb] at hch
          obtain rfl := ne_not hb
          cases hm : mayB l e' a with
          | false =>
            rw [hm, if_neg (by decide)] at hch
            cases hch
          | true =>
            rw [hm, if_pos rfl] at hch
            unfold mayB at hm
            simp only [Bool.and_eq_true] at hm
            have w1 : (trues l (wayE e' a)).isEmpty = true := hm.2
            have w2 : (trues l (posE (flipE e' a))).isEmpty = true := hm.1.2
            have q1 := allowed24 l hsl (wayE e' a)
            rw [allowedV, if_pos (posC_way hg' a), w1] at q1
            have q2 := allowed24 l hsl (posE (flipE e' a))
            rw [allowedV, if_pos (posC_flip hg' a), w2] at q2
            repeat (first | refine z_seq ?_ | refine z_region rfl ?_ | refine o_nil ?_ | refine u_seq ?_ | refine z_block ?_ | refine z_skip ?_ | refine z_ct rfl ?_ | refine o_gy rfl ?_ | refine o_mov rfl ?_ | refine o_load rfl rfl ?_ | refine o_loadn rfl rfl rfl rfl ?_ | refine o_store rfl rfl rfl rfl rfl rfl rfl ?_ | refine o_faddrm rfl ?_ | refine o_alloc ?_ | refine o_cmpf rfl rfl rfl ?_ | refine o_idxs rfl rfl (by omega) (by assumption) rfl ?_)
            refine o_cmpf rfl rfl (by show some (AV.bool (decide (((a : Nat) : Int) ≥ (e.length : Nat)))) = _; rw [decide_eq_false (by omega)]) ?_
            repeat (first | refine z_seq ?_ | refine z_region rfl ?_ | refine o_nil ?_ | refine u_seq ?_ | refine z_skip ?_ | refine z_cf rfl ?_ | refine o_pickf rfl rfl ?_)
            refine o_fsl [[.int .i64 3], [.int .i64 0]] rfl rfl rfl rfl ?_
            repeat (first | refine z_seq ?_ | refine z_region rfl ?_ | refine o_nil ?_ | refine u_seq ?_ | refine o_mov rfl ?_ | refine o_load rfl rfl ?_ | refine o_faddrm rfl ?_)
            cases hbv : e'.getD a false with
            | true =>
              repeat (first | refine z_seq ?_ | refine z_region rfl ?_ | refine o_nil ?_ | refine u_seq ?_ | refine z_block ?_ | refine z_skip ?_ | refine z_cf rfl ?_ | refine o_mov rfl ?_ | refine o_len rfl rfl ?_)
              refine z_loop (fun mm S => ∃ j, mm = 2 - j ∧ j ≤ 2 ∧ S = s12 l (w12 e' a j) e.length L t [(11, .vptr [.int .i64 (a : Nat), .bool (!true)]), (107, .vs [[.int .i64 3], [.int .i64 0]]), (108, .int .i64 2), (109, .int .i64 (j : Nat))]) 2
                (sub_renw [(some (0, 0), (posE e').map (AV.int .i64))] [(1, 1, [.int .i64 (a : Nat), .bool (!true)])] rfl rfl rfl (.cons rfl rfl .nil) (.cons rfl (.keep (hasML_intl _)) .nil) (l' := [(2, .vptr [.vs (cXs l)]), (5, .int .i64 (e.length : Nat)), (9, .ms 0 0 1 0 e.length none), (88, .vs (cSs L)), (89, .int .i64 (L.length : Nat)), (90, .int .i64 (t : Nat)), (11, .vptr [.int .i64 (a : Nat), .bool (!true)]), (107, .vs [[.int .i64 3], [.int .i64 0]]), (108, .int .i64 2), (109, .int .i64 (0 : Nat))]) (.cons rfl (.same rfl) (.cons rfl (.same rfl) (.cons rfl (.ms rfl) (.cons rfl (.same rfl) (.cons rfl (.same rfl) (.cons rfl (.same rfl) (.cons rfl (.fptr rfl rfl) (.cons rfl (.same rfl) (.cons rfl (.same rfl) (.cons rfl (.same rfl) .nil))))))))))) ⟨0, rfl, by omega, rfl⟩ ?_
              rintro mm S ⟨j, rfl, hj, rfl⟩
              unfold b12_2 s12
              have hw0 : ((posE e').map (AV.int .i64)).set a (.int .i64 3) = (wayE e' a).map (AV.int .i64) := by
                unfold wayE
                rw [hbv, List.map_set]
                rfl
              have hw1 : ((wayE e' a).map (AV.int .i64)).set a (.int .i64 0) = (posE (flipE e' a)).map (AV.int .i64) := by
                unfold wayE flipE
                rw [posE_set, hbv, List.map_set, List.map_set, List.set_set]
                rfl
              repeat (first | refine z_seq ?_ | refine z_region rfl ?_)
              refine o_cmp rfl rfl rfl (fun h5 => ?_) fun h5 => ?_
              · have hj2 : j < 2 := by have := of_decide_eq_true h5; omega
                have e0 : 0 + ((a : Nat) : Int).toNat * 1 = a := by omega
                rcases (show j = 0 ∨ j = 1 by omega) with rfl | rfl
                · repeat (first | refine z_seq ?_ | refine z_region rfl ?_ | refine o_nil ?_ | refine u_seq ?_ | refine z_block ?_ | refine z_skip ?_ | refine z_ct rfl ?_)
                  refine o_idxs rfl rfl (Int.natCast_nonneg _) (show ([[.int .i64 3], [.int .i64 0]] : List (List AV))[((0 : Nat) : Int).toNat]? = some [.int .i64 3] from rfl) rfl ?_
                  repeat (first | refine z_seq ?_ | refine z_region rfl ?_ | refine o_nil ?_ | refine u_seq ?_ | refine o_mov rfl ?_ | refine o_load rfl rfl ?_ | refine o_faddrv rfl rfl rfl ?_ | refine o_idxsm rfl rfl (by omega) (by omega) ?_)
                  rw [e0]
                  refine o_storeg rfl rfl rfl rfl (by show a < ((posE e').map (AV.int .i64)).length; rw [List.length_map, posE_len]; exact ha) rfl ?_
                  rw [show w12 e' a 0 = posE e' from rfl, hw0]
                  repeat (first | refine z_seq ?_ | refine z_region rfl ?_ | refine o_nil ?_ | refine u_seq ?_ | refine o_mov rfl ?_ | refine o_loadn rfl rfl rfl rfl ?_)
                  refine o_call rfl (congrArg (fun v => [AV.agg [.vs (cXs l)], v]) (view_intN (S := st _ _ _ _ _) (wayE e' a) (by unfold wayE; rw [List.length_set, posE_len]; exact hel') rfl)) q1 (fun _ => rfl) ?_
                  repeat (first | refine z_seq ?_ | refine z_region rfl ?_ | refine o_nil ?_ | refine u_seq ?_ | refine u_blk ?_ | refine z_skip ?_ | refine z_cf rfl ?_ | refine o_gy rfl ?_ | refine o_mov rfl ?_ | refine o_pickf rfl rfl ?_ | refine o_un rfl rfl ?_ | refine o_extract rfl rfl ?_ | refine o_bin (op := .add) rfl rfl rfl ?_ | refine o_cmpf rfl rfl rfl ?_)
                  exact u_round (show 2 - (0 + 1) < 2 - 0 by omega) (sub_keep (l' := [(2, .vptr [.vs (cXs l)]), (5, .int .i64 (e.length : Nat)), (9, .ms 0 0 1 0 e.length none), (88, .vs (cSs L)), (89, .int .i64 (L.length : Nat)), (90, .int .i64 (t : Nat)), (11, .vptr [.int .i64 (a : Nat), .bool (!true)]), (107, .vs [[.int .i64 3], [.int .i64 0]]), (108, .int .i64 2), (109, .int .i64 (1 : Nat))]) (.cons rfl (.cons rfl (.cons rfl (.cons rfl (.cons rfl (.cons rfl (.cons rfl (.cons rfl (.cons rfl (.cons rfl .nil))))))))))) ⟨1, rfl, by omega, rfl⟩
                · repeat (first | refine z_seq ?_ | refine z_region rfl ?_ | refine o_nil ?_ | refine u_seq ?_ | refine z_block ?_ | refine z_skip ?_ | refine z_ct rfl ?_)
                  refine o_idxs rfl rfl (Int.natCast_nonneg _) (show ([[.int .i64 3], [.int .i64 0]] : List (List AV))[((1 : Nat) : Int).toNat]? = some [.int .i64 0] from rfl) rfl ?_
                  repeat (first | refine z_seq ?_ | refine z_region rfl ?_ | refine o_nil ?_ | refine u_seq ?_ | refine o_mov rfl ?_ | refine o_load rfl rfl ?_ | refine o_faddrv rfl rfl rfl ?_ | refine o_idxsm rfl rfl (by omega) (by omega) ?_)
                  rw [e0]
                  refine o_storeg rfl rfl rfl rfl (by show a < ((wayE e' a).map (AV.int .i64)).length; unfold wayE; rw [List.length_map, List.length_set, posE_len]; exact ha) rfl ?_
                  rw [show w12 e' a 1 = wayE e' a from rfl, hw1]
                  repeat (first | refine z_seq ?_ | refine z_region rfl ?_ | refine o_nil ?_ | refine u_seq ?_ | refine o_mov rfl ?_ | refine o_loadn rfl rfl rfl rfl ?_)
                  refine o_call rfl (congrArg (fun v => [AV.agg [.vs (cXs l)], v]) (view_intN (S := st _ _ _ _ _) (posE (flipE e' a)) (by rw [posE_len, flip_len]; exact hel') rfl)) q2 (fun _ => rfl) ?_
                  repeat (first | refine z_seq ?_ | refine z_region rfl ?_ | refine o_nil ?_ | refine u_seq ?_ | refine u_blk ?_ | refine z_skip ?_ | refine z_cf rfl ?_ | refine o_gy rfl ?_ | refine o_mov rfl ?_ | refine o_pickf rfl rfl ?_ | refine o_un rfl rfl ?_ | refine o_extract rfl rfl ?_ | refine o_bin (op := .add) rfl rfl rfl ?_ | refine o_cmpf rfl rfl rfl ?_)
                  exact u_round (show 2 - (1 + 1) < 2 - 1 by omega) (sub_keep (l' := [(2, .vptr [.vs (cXs l)]), (5, .int .i64 (e.length : Nat)), (9, .ms 0 0 1 0 e.length none), (88, .vs (cSs L)), (89, .int .i64 (L.length : Nat)), (90, .int .i64 (t : Nat)), (11, .vptr [.int .i64 (a : Nat), .bool (!true)]), (107, .vs [[.int .i64 3], [.int .i64 0]]), (108, .int .i64 2), (109, .int .i64 (2 : Nat))]) (.cons rfl (.cons rfl (.cons rfl (.cons rfl (.cons rfl (.cons rfl (.cons rfl (.cons rfl (.cons rfl (.cons rfl .nil))))))))))) ⟨2, rfl, by omega, rfl⟩
              · have hj2 : j = 2 := by have := of_decide_eq_false h5; omega
                subst hj2
                repeat (first | refine z_seq ?_ | refine o_nil ?_ | refine u_seq ?_ | refine z_cf rfl ?_ | refine z_exit ?_ | refine u_exit_seq ?_)
                refine u_out ?_
                repeat (first | refine z_region rfl ?_ | refine o_nil ?_ | refine u_seq ?_ | refine u_blk ?_ | refine u_exit ?_ | refine o_mov rfl ?_ | refine o_bin (op := .add) rfl rfl rfl ?_)
                rw [wrap_succ t (by omega)]
                exact u_round (show L.length - (t + 1) < L.length - t by omega) (sub_keep (l' := [(2, .vptr [.vs (cXs l)]), (5, .int .i64 (e.length : Nat)), (9, .ms 0 0 1 0 e.length none), (88, .vs (cSs L)), (89, .int .i64 (L.length : Nat)), (90, .int .i64 ((t + 1 : Nat) : Int))]) (.cons rfl (.cons rfl (.cons rfl (.cons rfl (.cons rfl (.cons rfl .nil))))))) ⟨t + 1, flipE e' a, rfl, hlt, by rw [flip_len]; exact hel', hch, rfl⟩
            | false =>
              repeat (first | refine z_seq ?_ | refine z_region rfl ?_ | refine o_nil ?_ | refine u_seq ?_ | refine z_block ?_ | refine z_ct rfl ?_ | refine o_mov rfl ?_ | refine o_len rfl rfl ?_ | refine o_bslice rfl rfl ?_)
              refine z_loop (fun mm S => ∃ j, mm = 2 - j ∧ j ≤ 2 ∧ S = s12 l (w12 e' a j) e.length L t [(11, .vptr [.int .i64 (a : Nat), .bool (!false)]), (107, .vs [[.int .i64 1], [.int .i64 2]]), (108, .int .i64 2), (109, .int .i64 (j : Nat))]) 2
                (sub_renw [(some (0, 0), (posE e').map (AV.int .i64))] [(1, 1, [.int .i64 (a : Nat), .bool (!false)]), (2, 2, [.int .i64 1, .int .i64 2])] rfl rfl rfl (.cons rfl rfl (.cons rfl rfl .nil)) (.cons rfl (.keep (hasML_intl _)) .nil) (l' := [(2, .vptr [.vs (cXs l)]), (5, .int .i64 (e.length : Nat)), (9, .ms 0 0 1 0 e.length none), (88, .vs (cSs L)), (89, .int .i64 (L.length : Nat)), (90, .int .i64 (t : Nat)), (11, .vptr [.int .i64 (a : Nat), .bool (!false)]), (107, .vs [[.int .i64 1], [.int .i64 2]]), (108, .int .i64 2), (109, .int .i64 (0 : Nat))]) (.cons rfl (.same rfl) (.cons rfl (.same rfl) (.cons rfl (.ms rfl) (.cons rfl (.same rfl) (.cons rfl (.same rfl) (.cons rfl (.same rfl) (.cons rfl (.fptr rfl rfl) (.cons rfl (.fms (xs := [[.int .i64 1], [.int .i64 2]]) rfl rfl (fun y hy => by rcases List.mem_cons.1 hy with rfl | hy; exact rfl; obtain rfl := List.mem_singleton.1 hy; exact rfl) ⟨[], rfl⟩) (.cons rfl (.same rfl) (.cons rfl (.same rfl) .nil))))))))))) ⟨0, rfl, by omega, rfl⟩ ?_
              rintro mm S ⟨j, rfl, hj, rfl⟩
              unfold b12_2 s12
              have hw0 : ((posE e').map (AV.int .i64)).set a (.int .i64 1) = (wayE e' a).map (AV.int .i64) := by
                unfold wayE
                rw [hbv, List.map_set]
                rfl
              have hw1 : ((wayE e' a).map (AV.int .i64)).set a (.int .i64 2) = (posE (flipE e' a)).map (AV.int .i64) := by
                unfold wayE flipE
                rw [posE_set, hbv, List.map_set, List.map_set, List.set_set]
                rfl
              repeat (first | refine z_seq ?_ | refine z_region rfl ?_)
              refine o_cmp rfl rfl rfl (fun h5 => ?_) fun h5 => ?_
              · have hj2 : j < 2 := by have := of_decide_eq_true h5; omega
                have e0 : 0 + ((a : Nat) : Int).toNat * 1 = a := by omega
                rcases (show j = 0 ∨ j = 1 by omega) with rfl | rfl
                · repeat (first | refine z_seq ?_ | refine z_region rfl ?_ | refine o_nil ?_ | refine u_seq ?_ | refine z_block ?_ | refine z_skip ?_ | refine z_ct rfl ?_)
                  refine o_idxs rfl rfl (Int.natCast_nonneg _) (show ([[.int .i64 1], [.int .i64 2]] : List (List AV))[((0 : Nat) : Int).toNat]? = some [.int .i64 1] from rfl) rfl ?_
                  repeat (first | refine z_seq ?_ | refine z_region rfl ?_ | refine o_nil ?_ | refine u_seq ?_ | refine o_mov rfl ?_ | refine o_load rfl rfl ?_ | refine o_faddrv rfl rfl rfl ?_ | refine o_idxsm rfl rfl (by omega) (by omega) ?_)
                  rw [e0]
                  refine o_storeg rfl rfl rfl rfl (by show a < ((posE e').map (AV.int .i64)).length; rw [List.length_map, posE_len]; exact ha) rfl ?_
                  rw [show w12 e' a 0 = posE e' from rfl, hw0]
                  repeat (first | refine z_seq ?_ | refine z_region rfl ?_ | refine o_nil ?_ | refine u_seq ?_ | refine o_mov rfl ?_ | refine o_loadn rfl rfl rfl rfl ?_)
                  refine o_call rfl (congrArg (fun v => [AV.agg [.vs (cXs l)], v]) (view_intN (S := st _ _ _ _ _) (wayE e' a) (by unfold wayE; rw [List.length_set, posE_len]; exact hel') rfl)) q1 (fun _ => rfl) ?_
                  repeat (first | refine z_seq ?_ | refine z_region rfl ?_ | refine o_nil ?_ | refine u_seq ?_ | refine u_blk ?_ | refine z_skip ?_ | refine z_cf rfl ?_ | refine o_gy rfl ?_ | refine o_mov rfl ?_ | refine o_pickf rfl rfl ?_ | refine o_un rfl rfl ?_ | refine o_extract rfl rfl ?_ | refine o_bin (op := .add) rfl rfl rfl ?_ | refine o_cmpf rfl rfl rfl ?_)
                  exact u_round (show 2 - (0 + 1) < 2 - 0 by omega) (sub_keep (l' := [(2, .vptr [.vs (cXs l)]), (5, .int .i64 (e.length : Nat)), (9, .ms 0 0 1 0 e.length none), (88, .vs (cSs L)), (89, .int .i64 (L.length : Nat)), (90, .int .i64 (t : Nat)), (11, .vptr [.int .i64 (a : Nat), .bool (!false)]), (107, .vs [[.int .i64 1], [.int .i64 2]]), (108, .int .i64 2), (109, .int .i64 (1 : Nat))]) (.cons rfl (.cons rfl (.cons rfl (.cons rfl (.cons rfl (.cons rfl (.cons rfl (.cons rfl (.cons rfl (.cons rfl .nil))))))))))) ⟨1, rfl, by omega, rfl⟩
                · repeat (first | refine z_seq ?_ | refine z_region rfl ?_ | refine o_nil ?_ | refine u_seq ?_ | refine z_block ?_ | refine z_skip ?_ | refine z_ct rfl ?_)
                  refine o_idxs rfl rfl (Int.natCast_nonneg _) (show ([[.int .i64 1], [.int .i64 2]] : List (List AV))[((1 : Nat) : Int).toNat]? = some [.int .i64 2] from rfl) rfl ?_
                  repeat (first | refine z_seq ?_ | refine z_region rfl ?_ | refine o_nil ?_ | refine u_seq ?_ | refine o_mov rfl ?_ | refine o_load rfl rfl ?_ | refine o_faddrv rfl rfl rfl ?_ | refine o_idxsm rfl rfl (by omega) (by omega) ?_)
                  rw [e0]
                  refine o_storeg rfl rfl rfl rfl (by show a < ((wayE e' a).map (AV.int .i64)).length; unfold wayE; rw [List.length_map, List.length_set, posE_len]; exact ha) rfl ?_
                  rw [show w12 e' a 1 = wayE e' a from rfl, hw1]
                  repeat (first | refine z_seq ?_ | refine z_region rfl ?_ | refine o_nil ?_ | refine u_seq ?_ | refine o_mov rfl ?_ | refine o_loadn rfl rfl rfl rfl ?_)
                  refine o_call rfl (congrArg (fun v => [AV.agg [.vs (cXs l)], v]) (view_intN (S := st _ _ _ _ _) (posE (flipE e' a)) (by rw [posE_len, flip_len]; exact hel') rfl)) q2 (fun _ => rfl) ?_
                  repeat (first | refine z_seq ?_ | refine z_region rfl ?_ | refine o_nil ?_ | refine u_seq ?_ | refine u_blk ?_ | refine z_skip ?_ | refine z_cf rfl ?_ | refine o_gy rfl ?_ | refine o_mov rfl ?_ | refine o_pickf rfl rfl ?_ | refine o_un rfl rfl ?_ | refine o_extract rfl rfl ?_ | refine o_bin (op := .add) rfl rfl rfl ?_ | refine o_cmpf rfl rfl rfl ?_)
                  exact u_round (show 2 - (1 + 1) < 2 - 1 by omega) (sub_keep (l' := [(2, .vptr [.vs (cXs l)]), (5, .int .i64 (e.length : Nat)), (9, .ms 0 0 1 0 e.length none), (88, .vs (cSs L)), (89, .int .i64 (L.length : Nat)), (90, .int .i64 (t : Nat)), (11, .vptr [.int .i64 (a : Nat), .bool (!false)]), (107, .vs [[.int .i64 1], [.int .i64 2]]), (108, .int .i64 2), (109, .int .i64 (2 : Nat))]) (.cons rfl (.cons rfl (.cons rfl (.cons rfl (.cons rfl (.cons rfl (.cons rfl (.cons rfl (.cons rfl (.cons rfl .nil))))))))))) ⟨2, rfl, by omega, rfl⟩
              · have hj2 : j = 2 := by have := of_decide_eq_false h5; omega
                subst hj2
                repeat (first | refine z_seq ?_ | refine o_nil ?_ | refine u_seq ?_ | refine z_cf rfl ?_ | refine z_exit ?_ | refine u_exit_seq ?_)
                refine u_out ?_
                repeat (first | refine z_region rfl ?_ | refine o_nil ?_ | refine u_seq ?_ | refine u_blk ?_ | refine u_exit ?_ | refine o_mov rfl ?_ | refine o_bin (op := .add) rfl rfl rfl ?_)
                rw [wrap_succ t (by omega)]
                exact u_round (show L.length - (t + 1) < L.length - t by omega) (sub_keep (l' := [(2, .vptr [.vs (cXs l)]), (5, .int .i64 (e.length : Nat)), (9, .ms 0 0 1 0 e.length none), (88, .vs (cSs L)), (89, .int .i64 (L.length : Nat)), (90, .int .i64 ((t + 1 : Nat) : Int))]) (.cons rfl (.cons rfl (.cons rfl (.cons rfl (.cons rfl (.cons rfl .nil))))))) ⟨t + 1, flipE e' a, rfl, hlt, by rw [flip_len]; exact hel', hch, rfl⟩
        · repeat (first | refine z_seq ?_ | refine o_nil ?_ | refine u_seq ?_ | refine z_cf rfl ?_ | refine z_exit ?_ | refine u_exit_seq ?_)
          refine u_out ?_
          repeat (first | refine z_seq ?_ | refine z_region rfl ?_ | refine u_seq ?_ | refine u_exit ?_)
          refine o_call rfl rfl haw (fun h => Bool.noConfusion (show false = true from h)) ?_
          repeat (first | refine o_nil ?_ | refine u_seq ?_ | refine z_ret ?_ | refine o_mov rfl ?_)
          exact u_end ⟨.inr rfl, _, rfl, rfl⟩

end Go.Proofs.Ytoiblgbaeglgoaa
