/-
  A STROKE THAT IS PERMITTED, FOR THE REFERENCE: free, May, Moves, Permitted.
-/
import Derived.Test.YtoiblgbaeglgoaaVH3
import Derived.Test.YtoiblgbaeglgoaaVS5
namespace Go.Proofs.Ytoiblgbaeglgoaa
open Go Go.Am

-- pneumatic/pneumaticref50.free
def ic98 : IC := .seq (.region [⟨(some 2), .box (.t 0), none⟩,
    ⟨(some 4), .mov (.c (.bool false)), none⟩] none)
  (.seq (.region [⟨(some 5), .load (some 1) (.t 2), none⟩,
    ⟨(some 6), .mov (.t 1), none⟩,
    ⟨(some 7), .call (.c (.fn 85 [] [])) [(.t 5), (.t 6)], none⟩,
    ⟨(some 8), .len false (.t 7), none⟩,
    ⟨(some 9), .bin .eql (.t 8) (.c (.int .i64 0)), none⟩,
    ⟨(some 4), .mov (.t 9), none⟩] none)
  (.ret))
theorem fn98 : env0.fn 98 = some ⟨10, ic98, [.t 4]⟩ := by kernel_rfl

theorem free98 (l : List Ex) {n : Nat} (hg : guardC l n = 0) (p : List Int) (hp : p.length = n) : PF Try.prog 98 [.agg [.vs (cXs l)], vsI p] (.bool (freeB l p)) := by
  have h := trueG hg hp
  refine PF_of_Z env0_ok fn98 [(0, .agg [.vs (cXs l)]), (1, vsI p)] (by show 2 ≤ 10; decide) rfl fun w0 N0 => ?_
  unfold ic98 freeB
  repeat (first | refine z_seq ?_ | refine z_region rfl ?_ | refine o_nil ?_ | refine u_seq ?_ | refine o_mov rfl ?_ | refine o_loadn rfl rfl rfl rfl ?_ | refine o_box rfl rfl ?_)
  refine o_call rfl rfl h (fun h => Bool.noConfusion (show false = true from h)) ?_
  repeat (first | refine o_len rfl rfl ?_)
  refine o_bin (op := .eql) rfl rfl (congrArg (fun b => some (AV.bool b)) (len_empty _)) ?_
  repeat (first | refine o_nil ?_ | refine u_seq ?_ | refine z_ret ?_ | refine o_mov rfl ?_)
  exact u_end ⟨.inr rfl, _, rfl, rfl⟩

theorem bool_get {e : List Bool} {a : Nat} (ha : a < e.length) : (e.map fun b => ([.bool b] : List AV))[((a : Nat) : Int).toNat]? = some [.bool (e.getD a false)] := by
  rw [Int.toNat_natCast, List.getElem?_map, List.getD_eq_getElem?_getD, List.getElem?_eq_getElem ha]
  rfl

theorem vsB_inj {a b : List Bool} (h : vsB a = vsB b) : a = b := by
  injection h with h
  exact (List.map_inj_right fun x y hxy => by injection hxy with hxy; injection hxy).1 h

def mayR (l : List Ex) (e : List Bool) (a : Nat) (o : Bool) : Bool := if e.getD a false = o then false else mayB l e a

theorem ne_not {b o : Bool} (h : ¬ b = o) : o = !b := by cases b <;> cases o <;> simp_all

theorem aft_flip {e : List Bool} {a : Nat} {o : Bool} (h : ¬ e.getD a false = o) : aft e [⟨(a : Nat), o⟩] = flipE e a := by
  show e.set ((a : Nat) : Int).toNat o = e.set a _
  rw [Int.toNat_natCast]
  congr 1
  generalize e.getD a false = b at h
  cases b <;> cases o <;> simp_all

-- pneumatic/pneumaticref50.May
def ic105 : IC := .seq (.region [⟨(some 3), .box (.t 0), none⟩,
    ⟨(some 5), .box (.t 2), none⟩,
    ⟨(some 6), .mov (.c (.bool false)), none⟩] none)
  (.seq (.seq (.region [⟨(some 9), .mov (.t 1), none⟩,
    ⟨(some 10), .faddr 0 (.t 5), none⟩,
    ⟨(some 11), .load none (.t 10), none⟩,
    ⟨(some 12), .idxs 1 (.t 9) (.t 11), none⟩,
    ⟨(some 13), .load none (.t 12), none⟩,
    ⟨(some 14), .faddr 1 (.t 5), none⟩,
    ⟨(some 15), .load none (.t 14), none⟩,
    ⟨(some 16), .eqb false (.t 13) (.t 15), none⟩] (some [[], [], [1], [0, 2], [3], [], [5], [4, 6]]))
  (.cond (.t 16) (.seq (.region [⟨(some 6), .mov (.c (.bool false)), none⟩] none)
  (.ret))
  (.skip)))
  (.seq (.region [⟨(some 17), .mov (.t 1), none⟩,
    ⟨(some 18), .call (.c (.fn 56 [] [])) [(.t 17)], none⟩,
    ⟨(some 7), .mov (.t 18), none⟩] none)
  (.seq (.region [⟨(some 19), .mov (.t 7), none⟩,
    ⟨(some 20), .faddr 0 (.t 5), none⟩,
    ⟨(some 21), .load none (.t 20), none⟩,
    ⟨(some 22), .idxs 1 (.t 19) (.t 21), none⟩,
    ⟨none, .store 1 (.t 22) (.c (.int .i64 3)), none⟩] none)
  (.seq (.seq (.region [⟨(some 23), .faddr 1 (.t 5), none⟩,
    ⟨(some 24), .load none (.t 23), none⟩] none)
  (.cond (.t 24) (.region [⟨(some 25), .mov (.t 7), none⟩,
    ⟨(some 26), .faddr 0 (.t 5), none⟩,
    ⟨(some 27), .load none (.t 26), none⟩,
    ⟨(some 28), .idxs 1 (.t 25) (.t 27), none⟩,
    ⟨none, .store 1 (.t 28) (.c (.int .i64 1)), none⟩] none)
  (.skip)))
  (.seq (.region [⟨(some 29), .load (some 2) (.t 5), none⟩,
    ⟨(some 30), .bslice 2 1 [.int .i64 0, .bool false] [(0, 2, (.t 29))], none⟩,
    ⟨(some 31), .build [.nils, .int .i64 0] [(0, 1, (.t 30))], none⟩,
    ⟨(some 32), .mov (.t 1), none⟩,
    ⟨(some 33), .call (.c (.fn 88 [] [])) [(.t 31), (.t 32)], none⟩,
    ⟨(some 8), .mov (.t 33), none⟩] none)
  (.seq (.region [⟨(some 34), .load (some 1) (.t 3), none⟩,
    ⟨(some 35), .mov (.t 1), none⟩,
    ⟨(some 36), .call (.c (.fn 56 [] [])) [(.t 35)], none⟩,
    ⟨(some 37), .call (.c (.fn 98 [] [])) [(.t 34), (.t 36)], none⟩,
    ⟨(some 38), .mov (.t 37), none⟩,
    ⟨(some 39), .load (some 1) (.t 3), some (38, true)⟩,
    ⟨(some 40), .mov (.t 7), some (38, true)⟩,
    ⟨(some 41), .call (.c (.fn 98 [] [])) [(.t 39), (.t 40)], some (38, true)⟩,
    ⟨(some 42), .pick (.t 38) (.t 41) (.c (.bool false)), none⟩,
    ⟨(some 43), .mov (.t 42), none⟩,
    ⟨(some 44), .load (some 1) (.t 3), some (43, true)⟩,
    ⟨(some 45), .mov (.t 8), some (43, true)⟩,
    ⟨(some 46), .call (.c (.fn 56 [] [])) [(.t 45)], some (43, true)⟩,
    ⟨(some 47), .call (.c (.fn 98 [] [])) [(.t 44), (.t 46)], some (43, true)⟩,
    ⟨(some 48), .pick (.t 43) (.t 47) (.c (.bool false)), none⟩,
    ⟨(some 6), .mov (.t 48), none⟩] (some [[], [], [1], [0, 2, 2], [3, 3], [4], [4], [5, 6, 4, 4], [4, 7], [8, 7], [9], [9], [11, 9, 9], [10, 12, 12, 9], [9, 13], [14, 13, 0, 1, 2, 3, 4, 5, 6, 7, 8, 9, 10, 11, 12, 13, 14]]))
  (.ret)))))))
theorem fn105 : env0.fn 105 = some ⟨49, ic105, [.t 6]⟩ := by kernel_rfl

set_option maxHeartbeats 2000000 in
theorem may105 (l : List Ex) (e : List Bool) (h1 : 1 ≤ e.length) (h4 : e.length ≤ 4) (hg : guardC l e.length = 0) (a : Nat) (o : Bool) (ha : a < e.length) :
    PF Try.prog 105 [.agg [.vs (cXs l)], vsB e, .agg [.int .i64 (a : Nat), .bool o]] (.bool (mayR l e a o)) := by
  have a1 := free98 l hg (posE e) (posE_len e)
  have hf1 : 1 ≤ (flipE e a).length := by rw [flip_len]; exact h1
  have hf4 : (flipE e a).length ≤ 4 := by rw [flip_len]; exact h4
  have a2 := free98 l hg (posE (flipE e a)) (by rw [posE_len, flip_len])
  have a3 := free98 l hg (wayE e a) (by unfold wayE; rw [List.length_set, posE_len])
  have q1 := pos56 h1 h4
  have q2 := pos56 hf1 hf4
  have hbg := bool_get ha
  have hpl : (posE e).length = e.length := posE_len e
  refine PF_of_Z env0_ok fn105 [(0, .agg [.vs (cXs l)]), (1, vsB e), (2, .agg [.int .i64 (a : Nat), .bool o])] (by show 3 ≤ 49; decide) rfl fun w0 N0 => ?_
  unfold ic105 mayR
  repeat (first | refine z_seq ?_ | refine z_region rfl ?_ | refine o_nil ?_ | refine u_seq ?_ | refine o_mov rfl ?_ | refine o_load rfl rfl ?_ | refine o_faddrm rfl ?_ | refine o_box rfl rfl ?_ | refine z_drawn0 env0_ok rfl rfl rfl ?_ | refine o_idxs rfl rfl (by omega) (by assumption) rfl ?_)
  by_cases hb : e.getD a false = o
  · rw [if_pos hb]
    refine o_eqb rfl rfl (fun _ => ?_) fun h => ?_
    · repeat (first | refine z_seq ?_ | refine z_region rfl ?_ | refine o_nil ?_ | refine u_seq ?_ | refine z_ct rfl ?_ | refine z_ret ?_ | refine u_ret_seq ?_ | refine o_mov rfl ?_)
      exact u_end ⟨.inr rfl, _, rfl, rfl⟩
    · rw [hb] at h
      simp at h
  · rw [if_neg hb]
    refine o_eqb rfl rfl (fun h => absurd (by simpa using h) hb) fun h => ?_
    have h88 := after63 ⟨[⟨(a : Nat), o⟩], 0⟩ e (by show 1 ≤ _; decide) (by omega) (by omega) (fun s hs => by obtain rfl := List.mem_singleton.1 hs; exact ⟨Int.natCast_nonneg a, by show ((a : Nat) : Int) < _; omega⟩)
    rw [aft_flip hb] at h88
    obtain rfl := ne_not hb
    repeat (first | refine z_seq ?_ | refine z_region rfl ?_ | refine o_nil ?_ | refine u_seq ?_ | refine z_skip ?_ | refine z_cf rfl ?_ | refine o_mov rfl ?_)
    refine o_own rfl rfl (pos56o h1 h4) (flatL_ints _) ?_
    repeat (first | refine z_seq ?_ | refine z_region rfl ?_ | refine o_nil ?_ | refine u_seq ?_ | refine o_mov rfl ?_ | refine o_load rfl rfl ?_ | refine o_faddrm rfl ?_ | refine o_idxsm rfl rfl (by omega) (by omega) ?_)
    have e0 : 0 + ((a : Nat) : Int).toNat * 1 = a := by omega
    rw [e0]
    have hml : ((posE e).map (AV.int .i64)).length = e.length := by rw [List.length_map, hpl]
    have hws : ∀ z : Int, ((posE e).map (AV.int .i64)).set a (.int .i64 z) = ((posE e).set a z).map (AV.int .i64) := fun z => by rw [List.map_set]
    have hfz : ∀ z : Int, RenF 2 2 (((posE e).map (AV.int .i64)).set a (.int .i64 z)) (.ms 2 2 1 0 e.length none) (vsI ((posE e).set a z)) := fun z => .fms (by rw [List.length_map, List.length_set, hpl]) (fun x hx => by obtain ⟨y, _, rfl⟩ := List.mem_map.1 hx; rfl) ⟨[], by rw [List.drop_zero, List.append_nil, hws]; exact flat_intl _⟩
    refine o_storeg rfl rfl rfl rfl (by rw [hml]; exact ha) rfl ?_
    have hset : ((posE e).set a 3).set a 1 = (posE e).set a 1 := List.set_set ..
    cases hbv : e.getD a false with
    | true =>
      rw [hbv] at h88
      repeat (first | refine z_seq ?_ | refine z_region rfl ?_ | refine o_nil ?_ | refine u_seq ?_ | refine z_skip ?_ | refine z_cf rfl ?_ | refine o_load rfl rfl ?_ | refine o_loadn rfl rfl rfl rfl ?_ | refine o_faddrm rfl ?_)
      refine o_fsl [[.int .i64 (a : Nat), .bool (!true)]] rfl rfl rfl rfl ?_
      repeat (first | refine o_mov rfl ?_ | refine o_build rfl rfl ?_)
      refine o_call rfl rfl h88 (fun h => Bool.noConfusion (show false = true from h)) ?_
      repeat (first | refine z_seq ?_ | refine o_nil ?_ | refine u_seq ?_ | refine o_mov rfl ?_)
      refine z_freeze 2 2 (l' := [(1, vsB e), (3, .mptr 0 0 0), (7, vsI (wayE e a)), (8, vsB (flipE e a))]) rfl (by  rw [hws]; exact hasML_intl _) (.cons rfl .same (.cons rfl .same (.cons rfl (by unfold wayE; rw [hbv];  exact hfz 3) (.cons rfl .same .nil)))) ?_
      refine z_drawn env0_ok [(56, [vsB e], vsI (posE e)), (56, [vsB (flipE e a)], vsI (posE (flipE e a))), (98, [.agg [.vs (cXs l)], vsI (posE e)], .bool (freeB l (posE e))), (98, [.agg [.vs (cXs l)], vsI (wayE e a)], .bool (freeB l (wayE e a))), (98, [.agg [.vs (cXs l)], vsI (posE (flipE e a))], .bool (freeB l (posE (flipE e a))))] (fun x hx => by
        rcases List.mem_cons.1 hx with rfl | hx
        · exact q1
        rcases List.mem_cons.1 hx with rfl | hx
        · exact q2
        rcases List.mem_cons.1 hx with rfl | hx
        · exact a1
        rcases List.mem_cons.1 hx with rfl | hx
        · exact a3
        obtain rfl := List.mem_singleton.1 hx
        exact a2) (fun f => Nat.beq f 56 || Nat.beq f 98) rfl rfl rfl ?_
      repeat (first | refine o_mov rfl ?_ | refine o_loadn rfl rfl rfl rfl ?_)
      refine o_call rfl rfl lookL_here (fun h => Bool.noConfusion (show false = true from h)) ?_
      refine o_call rfl rfl (lookL_next (by decide) (lookL_next (by decide) lookL_here)) (fun h => Bool.noConfusion (show false = true from h)) ?_
      unfold mayB
      cases hb1 : freeB l (posE e) with
      | false =>
        repeat (first | refine o_nil ?_ | refine u_seq ?_ | refine z_ret ?_ | refine o_gn rfl rfl ?_ | refine o_mov rfl ?_ | refine o_pickf rfl rfl ?_)
        exact u_end ⟨.inr rfl, _, rfl, rfl⟩
      | true =>
        repeat (first | refine o_gy rfl ?_ | refine o_mov rfl ?_ | refine o_loadn rfl rfl rfl rfl ?_)
        refine o_call rfl rfl (lookL_next (by decide) (lookL_next (by decide) (lookL_or (fun e0 => ?_) lookL_here))) (fun h => Bool.noConfusion (show false = true from h)) ?_
        · injection e0 with _ e0
          injection e0 with e0
          rw [← vsI_inj e0, hb1]
        cases hb2 : freeB l (wayE e a) with
        | false =>
          repeat (first | refine o_nil ?_ | refine u_seq ?_ | refine z_ret ?_ | refine o_gn rfl rfl ?_ | refine o_mov rfl ?_ | refine o_pickt rfl rfl ?_ | refine o_pickf rfl rfl ?_)
          refine u_end ⟨.inr rfl, _, rfl, ?_⟩
          rw [Bool.and_false]
          rfl
        | true =>
          repeat (first | refine o_gy rfl ?_ | refine o_mov rfl ?_ | refine o_loadn rfl rfl rfl rfl ?_ | refine o_pickt rfl rfl ?_)
          refine o_call rfl rfl (lookL_or (fun e0 => ?_) lookL_here) (fun h => Bool.noConfusion (show false = true from h)) ?_
          · injection e0 with e0
            exact congrArg (fun x => vsI (posE x)) (vsB_inj e0)
          repeat (first | refine o_gy rfl ?_)
          refine o_call rfl rfl (lookL_next (by decide) (lookL_next (by decide) (lookL_or (fun e0 => ?_) (lookL_or (fun e0 => ?_) lookL_here)))) (fun h => Bool.noConfusion (show false = true from h)) ?_
          · injection e0 with _ e0
            injection e0 with e0
            rw [← vsI_inj e0, hb1]
          · injection e0 with _ e0
            injection e0 with e0
            rw [← vsI_inj e0, hb2]
          repeat (first | refine o_nil ?_ | refine u_seq ?_ | refine z_ret ?_ | refine o_mov rfl ?_ | refine o_pickt rfl rfl ?_)
          refine u_end ⟨.inr rfl, _, rfl, ?_⟩
          rw [Bool.and_true, Bool.true_and]
          rfl
    | false =>
      rw [hbv] at h88
      repeat (first | refine z_seq ?_ | refine z_region rfl ?_ | refine o_nil ?_ | refine u_seq ?_ | refine z_ct rfl ?_ | refine o_mov rfl ?_ | refine o_load rfl rfl ?_ | refine o_faddrm rfl ?_ | refine o_idxsm rfl rfl (by omega) (by omega) ?_)
      rw [e0]
      refine o_storeg rfl rfl rfl rfl (by rw [List.length_set, hml]; exact ha) rfl ?_
      repeat (first | refine z_seq ?_ | refine z_region rfl ?_ | refine o_nil ?_ | refine u_seq ?_ | refine o_loadn rfl rfl rfl rfl ?_)
      refine o_fsl [[.int .i64 (a : Nat), .bool (!false)]] rfl rfl rfl rfl ?_
      repeat (first | refine o_mov rfl ?_ | refine o_build rfl rfl ?_)
      refine o_call rfl rfl h88 (fun h => Bool.noConfusion (show false = true from h)) ?_
      repeat (first | refine z_seq ?_ | refine o_nil ?_ | refine u_seq ?_ | refine o_mov rfl ?_)
      refine z_freeze 2 2 (l' := [(1, vsB e), (3, .mptr 0 0 0), (7, vsI (wayE e a)), (8, vsB (flipE e a))]) rfl (by rw [List.set_set, hws]; exact hasML_intl _) (.cons rfl .same (.cons rfl .same (.cons rfl (by unfold wayE; rw [hbv]; rw [List.set_set]; exact hfz 1) (.cons rfl .same .nil)))) ?_
      refine z_drawn env0_ok [(56, [vsB e], vsI (posE e)), (56, [vsB (flipE e a)], vsI (posE (flipE e a))), (98, [.agg [.vs (cXs l)], vsI (posE e)], .bool (freeB l (posE e))), (98, [.agg [.vs (cXs l)], vsI (wayE e a)], .bool (freeB l (wayE e a))), (98, [.agg [.vs (cXs l)], vsI (posE (flipE e a))], .bool (freeB l (posE (flipE e a))))] (fun x hx => by
        rcases List.mem_cons.1 hx with rfl | hx
        · exact q1
        rcases List.mem_cons.1 hx with rfl | hx
        · exact q2
        rcases List.mem_cons.1 hx with rfl | hx
        · exact a1
        rcases List.mem_cons.1 hx with rfl | hx
        · exact a3
        obtain rfl := List.mem_singleton.1 hx
        exact a2) (fun f => Nat.beq f 56 || Nat.beq f 98) rfl rfl rfl ?_
      repeat (first | refine o_mov rfl ?_ | refine o_loadn rfl rfl rfl rfl ?_)
      refine o_call rfl rfl lookL_here (fun h => Bool.noConfusion (show false = true from h)) ?_
      refine o_call rfl rfl (lookL_next (by decide) (lookL_next (by decide) lookL_here)) (fun h => Bool.noConfusion (show false = true from h)) ?_
      unfold mayB
      cases hb1 : freeB l (posE e) with
      | false =>
        repeat (first | refine o_nil ?_ | refine u_seq ?_ | refine z_ret ?_ | refine o_gn rfl rfl ?_ | refine o_mov rfl ?_ | refine o_pickf rfl rfl ?_)
        exact u_end ⟨.inr rfl, _, rfl, rfl⟩
      | true =>
        repeat (first | refine o_gy rfl ?_ | refine o_mov rfl ?_ | refine o_loadn rfl rfl rfl rfl ?_)
        refine o_call rfl rfl (lookL_next (by decide) (lookL_next (by decide) (lookL_or (fun e0 => ?_) lookL_here))) (fun h => Bool.noConfusion (show false = true from h)) ?_
        · injection e0 with _ e0
          injection e0 with e0
          rw [← vsI_inj e0, hb1]
        cases hb2 : freeB l (wayE e a) with
        | false =>
          repeat (first | refine o_nil ?_ | refine u_seq ?_ | refine z_ret ?_ | refine o_gn rfl rfl ?_ | refine o_mov rfl ?_ | refine o_pickt rfl rfl ?_ | refine o_pickf rfl rfl ?_)
          refine u_end ⟨.inr rfl, _, rfl, ?_⟩
          rw [Bool.and_false]
          rfl
        | true =>
          repeat (first | refine o_gy rfl ?_ | refine o_mov rfl ?_ | refine o_loadn rfl rfl rfl rfl ?_ | refine o_pickt rfl rfl ?_)
          refine o_call rfl rfl (lookL_or (fun e0 => ?_) lookL_here) (fun h => Bool.noConfusion (show false = true from h)) ?_
          · injection e0 with e0
            exact congrArg (fun x => vsI (posE x)) (vsB_inj e0)
          repeat (first | refine o_gy rfl ?_)
          refine o_call rfl rfl (lookL_next (by decide) (lookL_next (by decide) (lookL_or (fun e0 => ?_) (lookL_or (fun e0 => ?_) lookL_here)))) (fun h => Bool.noConfusion (show false = true from h)) ?_
          · injection e0 with _ e0
            injection e0 with e0
            rw [← vsI_inj e0, hb1]
          · injection e0 with _ e0
            injection e0 with e0
            rw [← vsI_inj e0, hb2]
          repeat (first | refine o_nil ?_ | refine u_seq ?_ | refine z_ret ?_ | refine o_mov rfl ?_ | refine o_pickt rfl rfl ?_)
          refine u_end ⟨.inr rfl, _, rfl, ?_⟩
          rw [Bool.and_true, Bool.true_and]
          rfl

end Go.Proofs.Ytoiblgbaeglgoaa
