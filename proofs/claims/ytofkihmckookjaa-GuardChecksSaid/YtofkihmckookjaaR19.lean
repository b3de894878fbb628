/-
  POSITIONS OF A GUARD: Which and Allowed, and the reference's.
-/
import Derived.Test.YtofkihmckookjaaR18
namespace Go.Proofs.Ytofkihmckookjaa
open Go Go.Am

def posL : List Int → Int
  | [] => 0
  | z :: zs => if z < 0 ∨ z ≥ 4 then 1 else posL zs

def posC (l : List Ex) (e : List Int) : Int := if guardC l e.length = 0 then posL e else guardC l e.length

theorem chkL_all {m : Int} : ∀ {l : List Ex}, chkL m l = 0 → ∀ y ∈ l, checkR y m = 0
  | [], _, y, hy => absurd hy List.not_mem_nil
  | x :: xs, h, y, hy => by
    rw [chkL] at h
    split at h
    · rename_i h1
      rcases List.mem_cons.1 hy with he | hm
      · rw [he]; exact h1
      · exact chkL_all h y hm
    · rename_i h1; exact absurd h h1

theorem guardC_ok {l : List Ex} {n : Int} (h : guardC l n = 0) : 1 ≤ n ∧ n ≤ 6 ∧ l.length ≤ 256 ∧ ∀ y ∈ l, checkR y (2 * n) = 0 := by
  unfold guardC at h
  split at h
  · exact absurd h (by decide)
  · split at h
    · exact absurd h (by decide)
    · exact ⟨by omega, by omega, by omega, chkL_all h⟩

def body58 : IC := .seq (.seq (.region [⟨(some 14), .mov (.t 6), none⟩,
    ⟨(some 15), .mov (.t 1), none⟩,
    ⟨(some 16), .len false (.t 15), none⟩,
    ⟨(some 17), .bin .lss (.t 14) (.t 16), none⟩] none)
  (.cond (.t 17) (.skip)
  (.exit 0)))
  (.seq (.block 1 (.seq (.region [⟨(some 20), .mov (.t 1), none⟩,
    ⟨(some 21), .mov (.t 6), none⟩,
    ⟨(some 22), .idxs 1 (.t 20) (.t 21), none⟩,
    ⟨(some 23), .load none (.t 22), none⟩,
    ⟨(some 24), .bin .lss (.t 23) (.c (.int .i64 0)), none⟩,
    ⟨(some 25), .mov (.t 24), none⟩,
    ⟨(some 26), .mov (.t 1), some (25, false)⟩,
    ⟨(some 27), .mov (.t 6), some (25, false)⟩,
    ⟨(some 28), .idxs 1 (.t 26) (.t 27), some (25, false)⟩,
    ⟨(some 29), .load none (.t 28), some (25, false)⟩,
    ⟨(some 30), .bin .geq (.t 29) (.c (.int .i64 4)), some (25, false)⟩,
    ⟨(some 31), .pick (.t 25) (.c (.bool true)) (.t 30), none⟩] none)
  (.cond (.t 31) (.seq (.region [⟨(some 4), .mov (.c (.int .i64 1)), none⟩] none)
  (.ret))
  (.skip))))
  (.region [⟨(some 18), .mov (.t 6), none⟩,
    ⟨(some 19), .bin .add (.t 18) (.c (.int .i64 1)), none⟩,
    ⟨(some 6), .mov (.t 19), none⟩] none))

-- pneumatic/pneumaticref49.positions
def ic58 : IC := .seq (.region [⟨(some 2), .box (.t 0), none⟩,
    ⟨(some 4), .mov (.c (.int .i64 0)), none⟩] none)
  (.seq (.seq (.region [⟨(some 7), .load (some 1) (.t 2), none⟩,
    ⟨(some 8), .mov (.t 1), none⟩,
    ⟨(some 9), .len false (.t 8), none⟩,
    ⟨(some 10), .call (.c (.fn 29 [] [])) [(.t 7), (.t 9)], none⟩,
    ⟨(some 5), .mov (.t 10), none⟩] none)
  (.seq (.region [⟨(some 11), .mov (.t 5), none⟩,
    ⟨(some 12), .bin .neq (.t 11) (.c (.int .i64 0)), none⟩] none)
  (.cond (.t 12) (.seq (.region [⟨(some 13), .mov (.t 5), none⟩,
    ⟨(some 4), .mov (.t 13), none⟩] none)
  (.ret))
  (.skip))))
  (.seq (.seq (.region [⟨(some 6), .mov (.c (.int .i64 0)), none⟩] none)
  (.block 0 (.loop body58)))
  (.seq (.region [⟨(some 4), .mov (.c (.int .i64 0)), none⟩] none)
  (.ret))))
theorem fn58 : env0.fn 58 = some ⟨32, ic58, [.t 4]⟩ := by kernel_rfl


set_option maxHeartbeats 2000000 in
theorem positions58 (l : List Ex) (hsl : ∀ y ∈ l, Slim y) (e : List Int) : PF Try.prog 58 [.agg [.vs (cXs l)], vsI e] (.int .i64 (posC l e)) := by
  have hce : (e.map fun z => ([.int .i64 z] : List AV)).length = e.length := List.length_map ..
  have h29 := gcheck29 l hsl e.length
  refine PF_of_Z env0_ok fn58 [(0, .agg [.vs (cXs l)]), (1, vsI e)] (by show 2 ≤ 32; decide) rfl fun w0 N0 => ?_
  unfold ic58 posC
  repeat (first | refine z_seq ?_ | refine z_region rfl ?_ | refine o_nil ?_ | refine u_seq ?_ | refine o_mov rfl ?_ | refine o_loadn rfl rfl rfl rfl ?_ | refine o_len rfl rfl ?_ | refine o_box rfl rfl ?_)
  refine o_call rfl (pair_eq rfl (congrArg (fun n : Nat => AV.int .i64 (n : Int)) hce)) h29 (fun h => Bool.noConfusion (show false = true from h)) ?_
  repeat (first | refine z_seq ?_ | refine z_region rfl ?_ | refine o_nil ?_ | refine u_seq ?_ | refine o_mov rfl ?_)
  refine o_cmp rfl rfl rfl (fun h1 => ?_) fun h1 => ?_
  · have h1 := bne_iff_ne.1 h1
    rw [if_neg h1]
    repeat (first | refine z_seq ?_ | refine z_region rfl ?_ | refine o_nil ?_ | refine u_seq ?_ | refine z_ct rfl ?_ | refine z_ret ?_ | refine u_ret_seq ?_ | refine o_mov rfl ?_)
    exact u_end ⟨.inr rfl, _, rfl, rfl⟩
  have h1 : guardC l e.length = 0 := by simpa using h1
  rw [if_pos h1]
  have hel : e.length ≤ 6 := by have := guardC_ok h1; omega
  repeat (first | refine z_seq ?_ | refine z_region rfl ?_ | refine o_nil ?_ | refine u_seq ?_ | refine z_block ?_ | refine z_skip ?_ | refine z_cf rfl ?_ | refine o_mov rfl ?_)
  refine z_loop (fun mm S => ∃ i, mm = e.length - i ∧ i ≤ e.length ∧ posL e = posL (e.drop i) ∧
      S = st 32 [(1, vsI e), (6, .int .i64 (i : Nat))] [] 0 1) e.length
    (sub_ren0 (.cons rfl (.same rfl) (.cons rfl (.same rfl) .nil))) ⟨0, rfl, Nat.zero_le _, rfl, rfl⟩ ?_
  rintro mm S ⟨i, rfl, hi, hall, rfl⟩
  unfold body58
  repeat (first | refine z_seq ?_ | refine z_region rfl ?_ | refine o_mov rfl ?_ | refine o_len rfl rfl ?_)
  refine o_cmp rfl rfl rfl (fun h3 => ?_) fun h3 => ?_
  · have hlt : i < e.length := by
      have := of_decide_eq_true h3
      rw [hce] at this
      omega
    have hdr : e.drop i = e[i] :: e.drop (i + 1) := List.drop_eq_getElem_cons hlt
    rw [hdr, posL] at hall
    have hge := vsI_get e i hlt
    generalize e[i] = z at hall hge
    repeat (first | refine z_seq ?_ | refine z_region rfl ?_ | refine o_nil ?_ | refine u_seq ?_ | refine z_block ?_ | refine z_skip ?_ | refine z_ct rfl ?_ | refine o_mov rfl ?_)
    refine o_idxs rfl rfl (Int.natCast_nonneg i) hge rfl ?_
    repeat (first | refine o_load rfl rfl ?_)
    refine o_cmp rfl rfl rfl (fun h4 => ?_) fun h4 => ?_
    · have h4 := of_decide_eq_true h4
      rw [if_pos (.inl h4)] at hall
      repeat (first | refine z_seq ?_ | refine z_region rfl ?_ | refine o_nil ?_ | refine u_seq ?_ | refine z_ct rfl ?_ | refine z_ret ?_ | refine u_ret_seq ?_ | refine u_ret_blk ?_ | refine o_gn rfl rfl ?_ | refine o_mov rfl ?_ | refine o_pickt rfl rfl ?_)
      refine u_out_ret ?_
      repeat (first | refine u_ret_seq ?_ | refine u_ret_blk ?_)
      refine u_end ⟨.inr rfl, _, rfl, ?_⟩
      rw [ hall]
      rfl
    have h4 := of_decide_eq_false h4
    repeat (first | refine o_gy rfl ?_ | refine o_mov rfl ?_)
    refine o_idxs rfl rfl (Int.natCast_nonneg i) hge rfl ?_
    repeat (first | refine o_gy rfl ?_ | refine o_load rfl rfl ?_)
    refine o_cmp rfl rfl rfl (fun h5 => ?_) fun h5 => ?_
    · have h5 := of_decide_eq_true h5
      rw [if_pos (.inr h5)] at hall
      repeat (first | refine z_seq ?_ | refine z_region rfl ?_ | refine o_nil ?_ | refine u_seq ?_ | refine z_ct rfl ?_ | refine z_ret ?_ | refine u_ret_seq ?_ | refine u_ret_blk ?_ | refine o_mov rfl ?_ | refine o_pickf rfl rfl ?_)
      refine u_out_ret ?_
      repeat (first | refine u_ret_seq ?_ | refine u_ret_blk ?_)
      refine u_end ⟨.inr rfl, _, rfl, ?_⟩
      rw [ hall]
      rfl
    have h5 := of_decide_eq_false h5
    rw [if_neg (fun h => h.elim h4 h5)] at hall
    repeat (first | refine z_region rfl ?_ | refine o_nil ?_ | refine u_seq ?_ | refine u_blk ?_ | refine z_skip ?_ | refine z_cf rfl ?_ | refine o_mov rfl ?_ | refine o_pickf rfl rfl ?_ | refine o_bin (op := .add) rfl rfl rfl ?_)
    exact u_round (show e.length - (i + 1) < e.length - i by omega) (sub_ren0 (.cons rfl (.same rfl) (.cons rfl (ren_eq (congrArg (AV.int .i64) (wrap_succ i (by omega))) rfl) .nil))) ⟨i + 1, rfl, hlt, hall, rfl⟩
  · have hi2 : i = e.length := by
      have := of_decide_eq_false h3
      rw [hce] at this
      omega
    rw [hi2, List.drop_length, posL] at hall
    repeat (first | refine o_nil ?_ | refine u_seq ?_ | refine z_cf rfl ?_ | refine z_exit ?_ | refine u_exit_seq ?_)
    refine u_out ?_
    repeat (first | refine z_seq ?_ | refine z_region rfl ?_ | refine o_nil ?_ | refine u_seq ?_ | refine z_ret ?_ | refine u_exit ?_ | refine o_mov rfl ?_)
    refine u_end ⟨.inr rfl, _, rfl, ?_⟩
    rw [hall]
    rfl

def trues (l : List Ex) (e : List Int) : List Int := idxs (holdB (sw e)) 0 l

def whichV (l : List Ex) (e : List Int) : AV := if posC l e = 0 then .tup [vsI (trues l e), .int .i64 0] else .tup [vsI [], .int .i64 (posC l e)]

theorem posC_ok {l : List Ex} {e : List Int} (h : posC l e = 0) : guardC l e.length = 0 ∧ posL e = 0 := by
  unfold posC at h
  split at h
  · rename_i h1; exact ⟨h1, h⟩
  · rename_i h1; exact absurd h h1

theorem sw_len2 (e : List Int) : ((sw e).length : Int) = 2 * (e.length : Int) := by
  have := sw_length e
  omega

def body26 : IC := .seq (.region [⟨(some 19), .bin .lss (.t 18) (.t 17), none⟩] none)
  (.seq (.cond (.t 19) (.skip)
  (.exit 0))
  (.seq (.block 1 (.seq (.region [⟨(some 20), .idxs 1 (.t 16) (.t 18), none⟩,
    ⟨(some 21), .load none (.t 20), none⟩,
    ⟨(some 8), .mov (.t 21), none⟩] none)
  (.seq (.region [⟨(some 22), .mov (.t 8), none⟩,
    ⟨(some 23), .bin .lss (.t 22) (.c (.int .i64 0)), none⟩,
    ⟨(some 24), .mov (.t 23), none⟩,
    ⟨(some 25), .mov (.t 8), some (24, false)⟩,
    ⟨(some 26), .bin .geq (.t 25) (.c (.int .i64 4)), some (24, false)⟩,
    ⟨(some 27), .pick (.t 24) (.c (.bool true)) (.t 26), none⟩] none)
  (.cond (.t 27) (.seq (.region [⟨(some 4), .mov (.c (.nils)), none⟩,
    ⟨(some 5), .mov (.c (.int .i64 1)), none⟩] none)
  (.ret))
  (.skip)))))
  (.region [⟨(some 28), .bin .add (.t 18) (.c (.int .i64 1)), none⟩,
    ⟨(some 18), .mov (.t 28), none⟩] none)))

-- pneumatic/guard.Which
def ic26 : IC := .seq (.region [⟨(some 2), .box (.t 0), none⟩,
    ⟨(some 4), .mov (.c (.nils)), none⟩,
    ⟨(some 5), .mov (.c (.int .i64 0)), none⟩] none)
  (.seq (.seq (.region [⟨(some 9), .load (some 1) (.t 2), none⟩,
    ⟨(some 10), .mov (.t 1), none⟩,
    ⟨(some 11), .len false (.t 10), none⟩,
    ⟨(some 12), .call (.c (.fn 28 [] [])) [(.t 9), (.t 11)], none⟩,
    ⟨(some 6), .mov (.t 12), none⟩] none)
  (.seq (.region [⟨(some 13), .mov (.t 6), none⟩,
    ⟨(some 14), .bin .neq (.t 13) (.c (.int .i64 0)), none⟩] none)
  (.cond (.t 14) (.seq (.region [⟨(some 15), .mov (.t 6), none⟩,
    ⟨(some 4), .mov (.c (.nils)), none⟩,
    ⟨(some 5), .mov (.t 15), none⟩] none)
  (.ret))
  (.skip))))
  (.seq (.seq (.region [⟨(some 16), .mov (.t 1), none⟩,
    ⟨(some 17), .len false (.t 16), none⟩,
    ⟨(some 18), .mov (.c (.int .i64 0)), none⟩] none)
  (.block 0 (.loop body26)))
  (.seq (.region [⟨(some 29), .faddr 0 (.t 2), none⟩,
    ⟨(some 30), .load none (.t 29), none⟩,
    ⟨(some 31), .mov (.t 1), none⟩,
    ⟨(some 32), .call (.c (.fn 53 [] [])) [(.t 30), (.t 31)], none⟩,
    ⟨(some 4), .mov (.t 32), none⟩,
    ⟨(some 5), .mov (.c (.int .i64 0)), none⟩] none)
  (.ret))))
theorem fn26 : env0.fn 26 = some ⟨33, ic26, [.t 4, .t 5]⟩ := by kernel_rfl


set_option maxHeartbeats 2000000 in
theorem which26 (l : List Ex) (hsl : ∀ y ∈ l, Slim y) (e : List Int) : PF Try.prog 26 [.agg [.vs (cXs l)], vsI e] (whichV l e) := by
  have hce : (e.map fun z => ([.int .i64 z] : List AV)).length = e.length := List.length_map ..
  have h28 := gcheck28 l hsl e.length
  refine PF_of_Z env0_ok fn26 [(0, .agg [.vs (cXs l)]), (1, vsI e)] (by show 2 ≤ 33; decide) rfl fun w0 N0 => ?_
  unfold ic26 whichV posC
  repeat (first | refine z_seq ?_ | refine z_region rfl ?_ | refine o_nil ?_ | refine u_seq ?_ | refine o_mov rfl ?_ | refine o_loadn rfl rfl rfl rfl ?_ | refine o_len rfl rfl ?_ | refine o_box rfl rfl ?_)
  refine o_call rfl (pair_eq rfl (congrArg (fun n : Nat => AV.int .i64 (n : Int)) hce)) h28 (fun h => Bool.noConfusion (show false = true from h)) ?_
  repeat (first | refine z_seq ?_ | refine z_region rfl ?_ | refine o_nil ?_ | refine u_seq ?_ | refine o_mov rfl ?_)
  refine o_cmp rfl rfl rfl (fun h1 => ?_) fun h1 => ?_
  · have h1 := bne_iff_ne.1 h1
    simp only [if_neg h1]
    repeat (first | refine z_seq ?_ | refine z_region rfl ?_ | refine o_nil ?_ | refine u_seq ?_ | refine z_ct rfl ?_ | refine z_ret ?_ | refine u_ret_seq ?_ | refine o_mov rfl ?_)
    exact u_end ⟨.inr rfl, _, rfl, rfl⟩
  have h1 : guardC l e.length = 0 := by simpa using h1
  simp only [if_pos h1]
  obtain ⟨g1, g2, g3, g4⟩ := guardC_ok h1
  have hel : e.length ≤ 6 := by omega
  have h53 := which53 l (by omega) e (by omega) (by omega) (fun y hy => by rw [sw_len2]; exact g4 y hy) hsl
  repeat (first | refine z_seq ?_ | refine z_region rfl ?_ | refine o_nil ?_ | refine u_seq ?_ | refine z_block ?_ | refine z_skip ?_ | refine z_cf rfl ?_ | refine o_mov rfl ?_ | refine o_len rfl rfl ?_)
  refine z_loop (fun mm S => ∃ i, mm = e.length - i ∧ i ≤ e.length ∧ posL e = posL (e.drop i) ∧
      S = st 33 [(1, vsI e), (2, .mptr 0 0 0), (16, vsI e), (17, .int .i64 (e.map fun z => ([.int .i64 z] : List AV)).length), (18, .int .i64 (i : Nat))] [(0, 0, .cells [.vs (cXs l)])] 1 1) e.length
    (sub_keep (.cons rfl (.cons rfl (.cons rfl (.cons rfl (.cons rfl .nil)))))) ⟨0, rfl, Nat.zero_le _, rfl, rfl⟩ ?_
  rintro mm S ⟨i, rfl, hi, hall, rfl⟩
  unfold body26
  repeat (first | refine z_seq ?_ | refine z_region rfl ?_)
  refine o_cmp rfl rfl rfl (fun h3 => ?_) fun h3 => ?_
  · have hlt : i < e.length := by
      have := of_decide_eq_true h3
      rw [hce] at this
      omega
    have hdr : e.drop i = e[i] :: e.drop (i + 1) := List.drop_eq_getElem_cons hlt
    rw [hdr, posL] at hall
    have hge := vsI_get e i hlt
    generalize e[i] = z at hall hge
    repeat (first | refine z_seq ?_ | refine z_region rfl ?_ | refine o_nil ?_ | refine u_seq ?_ | refine z_block ?_ | refine z_skip ?_ | refine z_ct rfl ?_)
    refine o_idxs rfl rfl (Int.natCast_nonneg i) hge rfl ?_
    repeat (first | refine z_seq ?_ | refine z_region rfl ?_ | refine o_nil ?_ | refine u_seq ?_ | refine o_mov rfl ?_ | refine o_load rfl rfl ?_)
    refine o_cmp rfl rfl rfl (fun h4 => ?_) fun h4 => ?_
    · have h4 := of_decide_eq_true h4
      rw [if_pos (.inl h4)] at hall
      repeat (first | refine z_seq ?_ | refine z_region rfl ?_ | refine o_nil ?_ | refine u_seq ?_ | refine z_ct rfl ?_ | refine z_ret ?_ | refine u_ret_seq ?_ | refine u_ret_blk ?_ | refine o_gn rfl rfl ?_ | refine o_mov rfl ?_ | refine o_pickt rfl rfl ?_)
      refine u_out_ret ?_
      repeat (first | refine u_ret_seq ?_ | refine u_ret_blk ?_)
      refine u_end ⟨.inr rfl, _, rfl, ?_⟩
      rw [ hall]
      rfl
    have h4 := of_decide_eq_false h4
    repeat (first | refine o_gy rfl ?_ | refine o_mov rfl ?_)
    refine o_cmp rfl rfl rfl (fun h5 => ?_) fun h5 => ?_
    · have h5 := of_decide_eq_true h5
      rw [if_pos (.inr h5)] at hall
      repeat (first | refine z_seq ?_ | refine z_region rfl ?_ | refine o_nil ?_ | refine u_seq ?_ | refine z_ct rfl ?_ | refine z_ret ?_ | refine u_ret_seq ?_ | refine u_ret_blk ?_ | refine o_mov rfl ?_ | refine o_pickf rfl rfl ?_)
      refine u_out_ret ?_
      repeat (first | refine u_ret_seq ?_ | refine u_ret_blk ?_)
      refine u_end ⟨.inr rfl, _, rfl, ?_⟩
      rw [ hall]
      rfl
    have h5 := of_decide_eq_false h5
    rw [if_neg (fun h => h.elim h4 h5)] at hall
    repeat (first | refine z_region rfl ?_ | refine o_nil ?_ | refine u_seq ?_ | refine u_blk ?_ | refine z_skip ?_ | refine z_cf rfl ?_ | refine o_mov rfl ?_ | refine o_pickf rfl rfl ?_ | refine o_bin (op := .add) rfl rfl rfl ?_)
    rw [wrap_succ i (by omega)]
    exact u_round (show e.length - (i + 1) < e.length - i by omega) (sub_keep (.cons rfl (.cons rfl (.cons rfl (.cons rfl (.cons rfl .nil)))))) ⟨i + 1, rfl, hlt, hall, rfl⟩
  · have hi2 : i = e.length := by
      have := of_decide_eq_false h3
      rw [hce] at this
      omega
    rw [hi2, List.drop_length, posL] at hall
    repeat (first | refine z_seq ?_ | refine o_nil ?_ | refine u_seq ?_ | refine z_cf rfl ?_ | refine z_exit ?_ | refine u_exit_seq ?_)
    refine u_out ?_
    repeat (first | refine z_seq ?_ | refine z_region rfl ?_ | refine u_seq ?_ | refine u_exit ?_ | refine o_mov rfl ?_ | refine o_load rfl rfl ?_ | refine o_faddrm rfl ?_)
    refine o_call rfl rfl h53 (fun h => Bool.noConfusion (show false = true from h)) ?_
    repeat (first | refine o_nil ?_ | refine u_seq ?_ | refine z_ret ?_ | refine o_mov rfl ?_)
    refine u_end ⟨.inr rfl, _, rfl, ?_⟩
    rw [hall, if_pos rfl]
    rfl

-- pneumatic/pneumaticref49.Which
def ic27 : IC := .seq (.region [⟨(some 2), .box (.t 0), none⟩,
    ⟨(some 4), .mov (.c (.nils)), none⟩,
    ⟨(some 5), .mov (.c (.int .i64 0)), none⟩] none)
  (.seq (.seq (.region [⟨(some 7), .load (some 1) (.t 2), none⟩,
    ⟨(some 8), .mov (.t 1), none⟩,
    ⟨(some 9), .call (.c (.fn 58 [] [])) [(.t 7), (.t 8)], none⟩,
    ⟨(some 6), .mov (.t 9), none⟩] none)
  (.seq (.region [⟨(some 10), .mov (.t 6), none⟩,
    ⟨(some 11), .bin .neq (.t 10) (.c (.int .i64 0)), none⟩] none)
  (.cond (.t 11) (.seq (.region [⟨(some 12), .mov (.t 6), none⟩,
    ⟨(some 4), .mov (.c (.nils)), none⟩,
    ⟨(some 5), .mov (.t 12), none⟩] none)
  (.ret))
  (.skip))))
  (.seq (.region [⟨(some 13), .load (some 1) (.t 2), none⟩,
    ⟨(some 14), .mov (.t 1), none⟩,
    ⟨(some 15), .call (.c (.fn 55 [] [])) [(.t 13), (.t 14)], none⟩,
    ⟨(some 4), .mov (.t 15), none⟩,
    ⟨(some 5), .mov (.c (.int .i64 0)), none⟩] none)
  (.ret)))
theorem fn27 : env0.fn 27 = some ⟨16, ic27, [.t 4, .t 5]⟩ := by kernel_rfl


set_option maxHeartbeats 2000000 in
theorem which27 (l : List Ex) (hsl : ∀ y ∈ l, Slim y) (e : List Int) : PF Try.prog 27 [.agg [.vs (cXs l)], vsI e] (whichV l e) := by
  have h58 := positions58 l hsl e
  refine PF_of_Z env0_ok fn27 [(0, .agg [.vs (cXs l)]), (1, vsI e)] (by show 2 ≤ 16; decide) rfl fun w0 N0 => ?_
  unfold ic27 whichV
  repeat (first | refine z_seq ?_ | refine z_region rfl ?_ | refine o_nil ?_ | refine u_seq ?_ | refine o_mov rfl ?_ | refine o_loadn rfl rfl rfl rfl ?_ | refine o_box rfl rfl ?_)
  refine o_call rfl rfl h58 (fun h => Bool.noConfusion (show false = true from h)) ?_
  repeat (first | refine z_seq ?_ | refine z_region rfl ?_ | refine o_nil ?_ | refine u_seq ?_ | refine o_mov rfl ?_)
  refine o_cmp rfl rfl rfl (fun h1 => ?_) fun h1 => ?_
  · have h1 := bne_iff_ne.1 h1
    rw [if_neg h1]
    repeat (first | refine z_seq ?_ | refine z_region rfl ?_ | refine o_nil ?_ | refine u_seq ?_ | refine z_ct rfl ?_ | refine z_ret ?_ | refine u_ret_seq ?_ | refine o_mov rfl ?_)
    exact u_end ⟨.inr rfl, _, rfl, rfl⟩
  have h1 : posC l e = 0 := by simpa using h1
  rw [if_pos h1]
  obtain ⟨g1, g2, g3, g4⟩ := guardC_ok (posC_ok h1).1
  have h55 := true55 l (by omega) e (by omega) (by omega) (fun y hy => by rw [sw_len2]; exact nds_of (g4 y hy))
  repeat (first | refine z_seq ?_ | refine z_region rfl ?_ | refine o_nil ?_ | refine u_seq ?_ | refine z_skip ?_ | refine z_cf rfl ?_ | refine o_mov rfl ?_ | refine o_loadn rfl rfl rfl rfl ?_)
  refine o_call rfl rfl h55 (fun h => Bool.noConfusion (show false = true from h)) ?_
  repeat (first | refine o_nil ?_ | refine u_seq ?_ | refine z_ret ?_ | refine o_mov rfl ?_)
  exact u_end ⟨.inr rfl, _, rfl, rfl⟩

end Go.Proofs.Ytofkihmckookjaa
