/-
  THE FIRST HOMING: the reference's Home and Find; the law of homings.
-/
import Derived.Test.YtoiblgbaeglgoaaVH15
namespace Go.Proofs.Ytoiblgbaeglgoaa
open Go Go.Am

def b100_2 : IC := .seq (.seq (.region [⟨(some 25), .mov (.t 10), none⟩,
    ⟨(some 26), .mov (.t 9), none⟩,
    ⟨(some 27), .len false (.t 26), none⟩,
    ⟨(some 28), .bin .lss (.t 25) (.t 27), none⟩] none)
  (.cond (.t 28) (.skip)
  (.exit 2)))
  (.seq (.block 3 (.seq (.region [⟨(some 31), .mov (.t 8), none⟩,
    ⟨(some 32), .mov (.t 9), none⟩,
    ⟨(some 33), .mov (.t 10), none⟩,
    ⟨(some 34), .idxs 2 (.t 32) (.t 33), none⟩,
    ⟨(some 35), .faddr 0 (.t 34), none⟩,
    ⟨(some 36), .load none (.t 35), none⟩,
    ⟨(some 37), .bin .shl (.c (.int .i64 1)) (.t 36), none⟩,
    ⟨(some 38), .bin .xor (.t 31) (.t 37), none⟩,
    ⟨(some 11), .mov (.t 38), none⟩] none)
  (.seq (.region [⟨(some 39), .mov (.t 2), none⟩,
    ⟨(some 40), .mov (.t 11), none⟩,
    ⟨(some 41), .idxs 1 (.t 39) (.t 40), none⟩,
    ⟨(some 42), .load none (.t 41), none⟩,
    ⟨(some 43), .mov (.t 2), none⟩,
    ⟨(some 44), .mov (.t 8), none⟩,
    ⟨(some 45), .idxs 1 (.t 43) (.t 44), none⟩,
    ⟨(some 46), .load none (.t 45), none⟩,
    ⟨(some 47), .bin .sub (.t 46) (.c (.int .i64 1)), none⟩,
    ⟨(some 48), .bin .eql (.t 42) (.t 47), none⟩] (some [[], [], [0, 1], [2], [], [], [4, 5], [6], [7], [3, 8]]))
  (.cond (.t 48) (.seq (.region [⟨(some 49), .mov (.t 7), none⟩,
    ⟨(some 50), .mov (.t 9), none⟩,
    ⟨(some 51), .mov (.t 10), none⟩,
    ⟨(some 52), .idxs 2 (.t 50) (.t 51), none⟩,
    ⟨(some 53), .load (some 2) (.t 52), none⟩,
    ⟨(some 54), .bslice 2 1 [.int .i64 0, .bool false] [(0, 2, (.t 53))], none⟩,
    ⟨(some 55), .append 2 16 [.int .i64 0, .bool false] (.t 49) (.t 54), none⟩,
    ⟨(some 7), .mov (.t 55), none⟩] none)
  (.seq (.region [⟨(some 56), .mov (.t 11), none⟩,
    ⟨(some 8), .mov (.t 56), none⟩] none)
  (.exit 2)))
  (.skip)))))
  (.region [⟨(some 29), .mov (.t 10), none⟩,
    ⟨(some 30), .bin .add (.t 29) (.c (.int .i64 1)), none⟩,
    ⟨(some 10), .mov (.t 30), none⟩] none))

def b100_0 : IC := .seq (.seq (.region [⟨(some 14), .mov (.t 2), none⟩,
    ⟨(some 15), .mov (.t 8), none⟩,
    ⟨(some 16), .idxs 1 (.t 14) (.t 15), none⟩,
    ⟨(some 17), .load none (.t 16), none⟩,
    ⟨(some 18), .bin .gtr (.t 17) (.c (.int .i64 0)), none⟩] none)
  (.cond (.t 18) (.skip)
  (.exit 0)))
  (.block 1 (.seq (.region [⟨(some 19), .load (some 1) (.t 3), none⟩,
    ⟨(some 20), .mov (.t 1), none⟩,
    ⟨(some 21), .len false (.t 20), none⟩,
    ⟨(some 22), .mov (.t 8), none⟩,
    ⟨(some 23), .call (.c (.fn 55 [] [])) [(.t 21), (.t 22)], none⟩,
    ⟨(some 24), .call (.c (.fn 103 [] [])) [(.t 19), (.t 23)], none⟩,
    ⟨(some 9), .mov (.t 24), none⟩] (some [[], [], [1], [], [2, 3], [0, 4, 4], [5, 5, 0, 1, 2, 3, 4, 5]]))
  (.seq (.region [⟨(some 10), .mov (.c (.int .i64 0)), none⟩] none)
  (.block 2 (.loop b100_2)))))

-- pneumatic/pneumaticref50.Home
def ic100 : IC := .seq (.region [⟨(some 3), .box (.t 0), none⟩,
    ⟨(some 6), .mov (.c (.nils)), none⟩] none)
  (.seq (.region [⟨(some 7), .mov (.c (.nils)), none⟩] none)
  (.seq (.region [⟨(some 12), .mov (.t 1), none⟩,
    ⟨(some 13), .call (.c (.fn 61 [] [])) [(.t 12)], none⟩,
    ⟨(some 8), .mov (.t 13), none⟩] none)
  (.seq (.block 0 (.loop b100_0))
  (.seq (.region [⟨(some 57), .mov (.t 7), none⟩,
    ⟨(some 6), .mov (.t 57), none⟩] none)
  (.ret)))))
theorem fn100 : env0.fn 100 = some ⟨58, ic100, [.t 6]⟩ := by kernel_rfl

theorem find_drop {p : Nat → Bool} {ms : List Nat} {i : Nat} (h : ms.find? p = some i) : ∀ (j : Nat), (∀ x ∈ ms.take j, p x = false) → (ms.drop j).find? p = some i := by
  intro j hj
  have e : ms.take j ++ ms.drop j = ms := List.take_append_drop j ms
  rw [← e, List.find?_append] at h
  have : (ms.take j).find? p = none := List.find?_eq_none.2 fun x hx => by rw [hj x hx]; simp
  rw [this] at h
  exact h

set_option maxHeartbeats 8000000 in
theorem home100 (l : List Ex) (e : List Bool) (h1 : 1 ≤ e.length) (h4 : e.length ≤ 4) (hg : guardC l e.length = 0) (D : List Int) (hD : LevW l e.length D) (h0 : 0 ≤ D.getD (idxE e) 0) :
    PF Try.prog 100 [.agg [.vs (cXs l)], vsB e, vsI D] (.vs (cSs (homeP l e.length D (D.getD (idxE e) 0).toNat (idxE e)))) := by
  have hel : (e.map fun b => ([.bool b] : List AV)).length = e.length := List.length_map ..
  have hb := lev_bound h4 hD
  have hki := idx_lt h1 h4
  have hp4 := pow4 h4
  refine PF_of_Z env0_ok fn100 [(0, .agg [.vs (cXs l)]), (1, vsB e), (2, vsI D)] (by show 3 ≤ 58; decide) rfl fun w0 N0 => ?_
  unfold ic100
  repeat (first | refine z_seq ?_ | refine z_region rfl ?_ | refine o_nil ?_ | refine u_seq ?_ | refine o_mov rfl ?_ | refine o_box rfl rfl ?_)
  refine o_call rfl rfl (index61 h1 h4) (fun h => Bool.noConfusion (show false = true from h)) ?_
  repeat (first | refine z_seq ?_ | refine o_nil ?_ | refine u_seq ?_ | refine z_block ?_ | refine o_mov rfl ?_)
  refine z_loop (fun mm S => ∃ k d A, mm = d ∧ k < 2 ^ e.length ∧ D.getD k 0 = (d : Int) ∧ homeP l e.length D (D.getD (idxE e) 0).toNat (idxE e) = A ++ homeP l e.length D d k ∧ A.length + d ≤ 100 ∧
      S = st 58 [(1, vsB e), (2, vsI D), (3, .vptr [.vs (cXs l)]), (7, .ms 0 0 2 0 A.length none), (8, .int .i64 (k : Nat))] [(0, 0, .cells (cSs A).flatten)] 1 1) (D.getD (idxE e) 0).toNat
    (sub_renw [(none, [])] [(0, 0, [.vs (cXs l)])] rfl rfl rfl (.cons rfl rfl .nil) (.new .nil) (l' := [(1, vsB e), (2, vsI D), (3, .vptr [.vs (cXs l)]), (7, .ms 0 0 2 0 0 none), (8, .int .i64 (idxE e : Nat))]) (.cons rfl (.same rfl) (.cons rfl (.same rfl) (.cons rfl (.fptr rfl rfl) (.cons rfl (.grow rfl) (.cons rfl (.same rfl) .nil)))))) ⟨idxE e, _, [], rfl, hki, by omega, rfl, by have := (hb _ hki).2; show 0 + _ ≤ _; omega, rfl⟩ ?_
  rintro mm S ⟨k, d, A, rfl, hk, hkd, hA, hal, rfl⟩
  have hgk := vsI_getD (D := D) (k := k) (by rw [hD.len]; exact hk)
  unfold b100_0
  repeat (first | refine z_seq ?_ | refine z_region rfl ?_ | refine o_mov rfl ?_ | refine o_load rfl rfl ?_ | refine o_idxs rfl rfl (by omega) (by assumption) rfl ?_)
  cases mm with
  | zero =>
    refine o_cmp rfl rfl rfl (fun h => absurd (of_decide_eq_true h) (by omega)) fun _ => ?_
    rw [homeP, List.append_nil] at hA
    rw [hA]
    repeat (first | refine o_nil ?_ | refine u_seq ?_ | refine z_cf rfl ?_ | refine z_exit ?_ | refine u_exit_seq ?_)
    refine u_out ?_
    repeat (first | refine z_seq ?_ | refine z_region rfl ?_ | refine o_nil ?_ | refine u_seq ?_ | refine z_ret ?_ | refine u_exit ?_ | refine o_mov rfl ?_)
    exact u_end ⟨.inr rfl, _, rfl, view_cSs (d := 3) A rfl⟩
  | succ d =>
    refine o_cmp rfl rfl rfl (fun _ => ?_) fun h => absurd (of_decide_eq_false h) (by omega)
    obtain ⟨i, hfi, him, hDi⟩ := down_some h1 h4 hD hk (by omega)
    rw [homeP, hfi] at hA
    simp only at hA
    have hbl := bitsE_len e.length k
    have hib := idx_bits h1 h4 hk
    have he := ends55 (e := bitsE e.length k) (by rw [hbl]; exact h1) (by rw [hbl]; exact h4)
    rw [hbl, hib] at he
    have hmv := moves103 l (bitsE e.length k) (by rw [hbl]; exact h1) (by rw [hbl]; exact h4) (by rw [hbl]; exact hg)
    rw [moves_mv] at hmv
    have hmv : PF Try.prog 103 [.agg [.vs (cXs l)], vsB (bitsE e.length k)] (.vs (cSs ((mv l e.length k).map (skE e.length k)))) := hmv
    have hml : (cSs ((mv l e.length k).map (skE e.length k))).length = (mv l e.length k).length := by rw [cSs_length, List.length_map]
    have hmn : (mv l e.length k).length ≤ e.length := by
      have := List.length_filter_le (fun i => mayB l (bitsE e.length k) i) (List.range e.length)
      rwa [List.length_range] at this
    repeat (first | refine z_seq ?_ | refine o_nil ?_ | refine u_seq ?_ | refine z_block ?_ | refine z_skip ?_ | refine z_ct rfl ?_)
    refine z_drawn env0_ok [(55, [.int .i64 (e.length : Nat), .int .i64 (k : Nat)], vsB (bitsE e.length k)), (103, [.agg [.vs (cXs l)], vsB (bitsE e.length k)], .vs (cSs ((mv l e.length k).map (skE e.length k))))] (fun x hx => by
      rcases List.mem_cons.1 hx with rfl | hx
      · exact he
      obtain rfl := List.mem_singleton.1 hx
      exact hmv) (fun f => Nat.beq f 55 || Nat.beq f 103) rfl rfl rfl ?_
    repeat (first | refine o_mov rfl ?_ | refine o_loadn rfl rfl rfl rfl ?_ | refine o_len rfl rfl ?_)
    rw [hel]
    refine o_call rfl rfl lookL_here (fun h => Bool.noConfusion (show false = true from h)) ?_
    refine o_call rfl rfl (lookL_next (by decide) lookL_here) (fun h => Bool.noConfusion (show false = true from h)) ?_
    repeat (first | refine z_seq ?_ | refine z_region rfl ?_ | refine o_nil ?_ | refine u_seq ?_ | refine z_block ?_ | refine o_mov rfl ?_)
    refine z_loop (fun mm S => ∃ j, mm = (mv l e.length k).length - j ∧ j ≤ (mv l e.length k).length ∧ (∀ x ∈ (mv l e.length k).take j, down e.length D k x = false) ∧
        S = st 58 [(1, vsB e), (2, vsI D), (3, .vptr [.vs (cXs l)]), (7, .ms 0 0 2 0 A.length none), (8, .int .i64 (k : Nat)), (9, .vs (cSs ((mv l e.length k).map (skE e.length k)))), (10, .int .i64 (j : Nat))] [(0, 0, .cells (cSs A).flatten)] 1 1) (mv l e.length k).length
      (sub_keep (l' := [(1, vsB e), (2, vsI D), (3, .vptr [.vs (cXs l)]), (7, .ms 0 0 2 0 A.length none), (8, .int .i64 (k : Nat)), (9, .vs (cSs ((mv l e.length k).map (skE e.length k)))), (10, .int .i64 ((0 : Nat) : Int))]) (.cons rfl (.cons rfl (.cons rfl (.cons rfl (.cons rfl (.cons rfl (.cons rfl .nil)))))))) ⟨0, rfl, Nat.zero_le _, fun x hx => absurd hx (by simp), rfl⟩ ?_
    rintro mm S ⟨j, rfl, hj, hno, rfl⟩
    have hdr := find_drop hfi j hno
    unfold b100_2
    repeat (first | refine z_seq ?_ | refine z_region rfl ?_ | refine o_mov rfl ?_ | refine o_len rfl rfl ?_)
    rw [hml]
    refine o_cmp rfl rfl rfl (fun h7 => ?_) fun h7 => ?_
    · have hlt : j < (mv l e.length k).length := by have := of_decide_eq_true h7; omega
      rw [List.drop_eq_getElem_cons hlt, List.find?_cons] at hdr
      have hmem := List.getElem_mem hlt
      have hge := cSs_get (l := (mv l e.length k).map (skE e.length k)) (i := j) (by rw [List.length_map]; exact hlt)
      rw [List.getElem_map] at hge
      have htk : (mv l e.length k).take (j + 1) = (mv l e.length k).take j ++ [(mv l e.length k)[j]] := by rw [List.take_add_one, List.getElem?_eq_getElem hlt]; rfl
      generalize (mv l e.length k)[j] = x at hdr hmem hge htk
      have hxn := mv_lt hmem
      have hge : (cSs ((mv l e.length k).map (skE e.length k)))[((j : Nat) : Int).toNat]? = some [.int .i64 (x : Nat), .bool (!((bitsE e.length k).getD x false))] := hge
      have hx := xorE (e := bitsE e.length k) (by rw [hbl]; exact h1) (by rw [hbl]; exact h4) (by rw [hbl]; exact hxn)
      rw [hib, show idxE (flipE (bitsE e.length k) x) = nxt e.length k x from rfl] at hx
      have hy := nxt_lt (k := k) (i := x) h1 h4
      have hgy := vsI_getD (D := D) (k := nxt e.length k x) (by rw [hD.len]; exact hy)
      repeat (first | refine z_seq ?_ | refine z_region rfl ?_ | refine o_nil ?_ | refine u_seq ?_ | refine z_block ?_ | refine z_skip ?_ | refine z_ct rfl ?_ | refine o_mov rfl ?_ | refine o_load rfl rfl ?_ | refine o_faddrv rfl rfl rfl ?_ | refine o_idxs rfl rfl (by omega) (by assumption) rfl ?_)
      refine o_bin (op := .shl) rfl rfl (shl1 (show x < 4 by omega)) ?_
      refine o_bin (op := .xor) rfl rfl hx ?_
      repeat (first | refine z_seq ?_ | refine o_nil ?_ | refine u_seq ?_ | refine o_mov rfl ?_ | refine o_load rfl rfl ?_ | refine z_drawn0 env0_ok rfl rfl rfl ?_ | refine o_bin (op := .sub) rfl rfl rfl ?_ | refine o_idxs rfl rfl (by omega) (by assumption) rfl ?_)
      rw [wrap_in _ (by have := hb k hk; omega) (by have := hb k hk; omega)]
      refine o_bin (op := .eql) rfl rfl rfl ?_
      have hde : (D.getD (nxt e.length k x) 0 == D.getD k 0 - 1) = down e.length D k x := rfl
      rw [hde]
      cases hdn : down e.length D k x with
      | true =>
        rw [hdn] at hdr
        injection hdr with hdr
        subst hdr
        repeat (first | refine z_seq ?_ | refine z_region rfl ?_ | refine o_nil ?_ | refine u_seq ?_ | refine z_ct rfl ?_ | refine o_mov rfl ?_ | refine o_loadn rfl rfl rfl rfl ?_ | refine o_idxs rfl rfl (by omega) (by assumption) rfl ?_)
        refine o_fsl [[.int .i64 (x : Nat), .bool (!((bitsE e.length k).getD x false))]] rfl rfl rfl rfl ?_
        refine o_append_ms [[.int .i64 (x : Nat), .bool (!((bitsE e.length k).getD x false))]] rfl rfl rfl (fun h => Nat.noConfusion h) rfl (by decide) rfl (cSs_flat_len _).symm (by show _ + 1 ≤ _; omega) ?_
        repeat (first | refine z_seq ?_ | refine z_region rfl ?_ | refine o_nil ?_ | refine u_seq ?_ | refine z_exit ?_ | refine u_exit_seq ?_ | refine u_exit_other rfl ?_ | refine o_mov rfl ?_)
        refine u_out ?_
        repeat (first | refine u_blk ?_ | refine u_exit ?_)
        exact u_round (show d < d + 1 by omega) (sub_renw [(some (0, 1), (cSs (A ++ [skE e.length k x])).flatten)] [] rfl rfl rfl .nil (.cons (by rw [cSs_snoc]; rfl) (.keep (cSs_hasM _)) .nil) (l' := [(1, vsB e), (2, vsI D), (3, .vptr [.vs (cXs l)]), (7, .ms 0 0 2 0 (A ++ [skE e.length k x]).length none), (8, .int .i64 (nxt e.length k x : Nat))]) (.cons rfl (.same rfl) (.cons rfl (.same rfl) (.cons rfl (.same rfl) (.cons (by rw [List.length_append]; rfl) (.ms rfl) (.cons rfl (.same rfl) .nil))))))
          ⟨nxt e.length k x, d, A ++ [skE e.length k x], rfl, hy, by omega, by rw [hA, List.append_assoc]; rfl, by rw [List.length_append, List.length_singleton]; omega, rfl⟩
      | false =>
        repeat (first | refine z_region rfl ?_ | refine o_nil ?_ | refine u_seq ?_ | refine u_blk ?_ | refine z_skip ?_ | refine z_cf rfl ?_ | refine o_mov rfl ?_ | refine o_bin (op := .add) rfl rfl rfl ?_)
        rw [wrap_succ j (by omega)]
        refine u_round (show (mv l e.length k).length - (j + 1) < (mv l e.length k).length - j by omega) (sub_keep (l' := [(1, vsB e), (2, vsI D), (3, .vptr [.vs (cXs l)]), (7, .ms 0 0 2 0 A.length none), (8, .int .i64 (k : Nat)), (9, .vs (cSs ((mv l e.length k).map (skE e.length k)))), (10, .int .i64 ((j + 1 : Nat) : Int))]) (.cons rfl (.cons rfl (.cons rfl (.cons rfl (.cons rfl (.cons rfl (.cons rfl .nil)))))))) ⟨j + 1, rfl, hlt, fun y hy => ?_, rfl⟩
        rw [htk] at hy
        rcases List.mem_append.1 hy with hy | hy
        · exact hno y hy
        · obtain rfl := List.mem_singleton.1 hy
          exact hdn
    · have hj2 : j = (mv l e.length k).length := by have := of_decide_eq_false h7; omega
      rw [hj2, List.drop_length] at hdr
      cases hdr

end Go.Proofs.Ytoiblgbaeglgoaa
