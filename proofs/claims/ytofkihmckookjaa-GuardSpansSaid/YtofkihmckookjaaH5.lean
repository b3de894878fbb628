/-
  THE TWO-HAND SIGNAL: guard.TwoHand for all events and windows.
-/
import Derived.Test.YtofkihmckookjaaH4
namespace Go.Proofs.Ytofkihmckookjaa
open Go Go.Am

theorem view_mem {d : Nat} {S : AS} {id sp : Nat} (init : List (Int × Int)) (p q : Int) (hl : Am.look id S.heap = some (sp, .cells ((init.map rowP).flatten ++ [.int .i64 p, .int .i64 q]))) : S.view (d + 2) (.ms id sp 2 0 (init.length + 1) none) = .vs ((init ++ [(p, q)]).map rowP) := by
  have e : init.length + 1 = ((init ++ [(p, q)]).map rowP).length := by simp
  rw [e]
  refine (view_ms (xs := (init ++ [(p, q)]).map rowP) hl (by simp [rowP]) fun x hx => by obtain ⟨_, _, rfl⟩ := List.mem_map.1 hx; rfl).trans ?_
  congr 1
  rw [List.map_map]
  exact List.map_congr_left fun _ _ => rfl

theorem hstep_len (w : Int) (sg : Hd) (e : Ev) {i : Nat} (h : sg.out.length ≤ i) : (hstep w sg e).out.length ≤ i + 1 := by
  obtain ⟨out, d0, d1, s0, s1, rdy⟩ := sg
  obtain ⟨at_, r, d⟩ := e
  have hcl : (closeL out at_).length ≤ i + 1 := by
    simp only at h
    unfold closeL
    split
    · split
      · simp; omega
      · omega
    · omega
  have hbo : ∀ s0 s1, (both w out s0 s1 at_ rdy).out.length ≤ i + 1 := by
    intro s0 s1
    simp only at h
    unfold both
    simp only
    split
    · simp; omega
    · omega
  simp only at h
  cases r <;> cases d <;> cases d0 <;> cases d1 <;> first | exact hcl | exact hbo _ _ | exact Nat.le_succ_of_le h

set_option maxHeartbeats 4000000 in
theorem two17 (l : List Ev) (w : Int) : PF Try.prog 17 [.vs (l.map rowE), .int .i64 w] (twoRes l w) := by
  have hlen : (l.map rowE).length = l.length := List.length_map ..
  have bad : evErr l w ≠ 0 → AV.tup [.vs [], .int .i64 (evErr l w)] = twoRes l w := fun h => by
    unfold twoRes; rw [if_neg h]
  refine PF_of_Z env0_ok fn17 [(0, .vs (l.map rowE)), (1, .int .i64 w)] (by show 2 ≤ 145; decide) rfl fun w0 N0 => ?_
  unfold ic17
  repeat (first
    | refine z_seq ?_
    | refine z_region rfl ?_
    | refine o_nil ?_
    | refine u_seq ?_
    | refine u_blk ?_
    | refine z_block ?_
    | refine z_skip ?_
    | refine z_ct rfl ?_
    | refine z_cf rfl ?_
    | refine z_exit ?_
    | refine z_ret ?_
    | refine u_exit ?_
    | refine u_exit_seq ?_
    | refine u_exit_other rfl ?_
    | refine u_ret_seq ?_
    | refine u_ret_blk ?_
    | refine o_gy rfl ?_
    | refine o_gn rfl rfl ?_
    | refine o_gt rfl ?_
    | refine o_mov rfl ?_
    | refine o_load rfl rfl ?_
    | refine o_loadn rfl rfl rfl rfl ?_
    | refine o_store rfl rfl rfl rfl rfl rfl rfl ?_
    | refine o_faddrm rfl ?_
    | refine o_faddrv rfl rfl rfl ?_
    | refine o_idxarrm rfl rfl rfl ?_
    | refine o_alloc ?_
    | refine o_pickt rfl rfl ?_
    | refine o_pickf rfl rfl ?_
    | refine o_un rfl rfl ?_
    | refine o_len rfl rfl ?_
    | refine o_build rfl rfl ?_
    | refine o_bslice rfl rfl ?_
    | refine o_box rfl rfl ?_
    | refine o_minmax2 rfl rfl rfl ?_
    | refine o_field rfl rfl ?_
    | refine o_append rfl rfl rfl rfl ?_
    | refine o_extract rfl rfl ?_
    | refine o_lenc ?_
    | refine z_drawn0 env0_ok rfl rfl rfl ?_
    | refine o_bin (op := .add) rfl rfl rfl ?_
    | refine o_bin (op := .sub) rfl rfl rfl ?_
    | refine o_eqbt rfl rfl rfl ?_
    | refine o_eqbf rfl rfl rfl ?_
    | refine o_cmpt rfl rfl rfl ?_
    | refine o_cmpf rfl rfl rfl ?_)
  refine o_cmp rfl rfl rfl (fun h1 => ?_) fun h1 => ?_
  · have h2 : 256 < l.length := by
      have := of_decide_eq_true h1
      omega
    have he : evErr l w = 5 := if_pos h2
    repeat (first
      | refine z_seq ?_
      | refine z_region rfl ?_
      | refine o_nil ?_
      | refine u_seq ?_
      | refine u_blk ?_
      | refine z_block ?_
      | refine z_skip ?_
      | refine z_ct rfl ?_
      | refine z_cf rfl ?_
      | refine z_exit ?_
      | refine z_ret ?_
      | refine u_exit ?_
      | refine u_exit_seq ?_
      | refine u_exit_other rfl ?_
      | refine u_ret_seq ?_
      | refine u_ret_blk ?_
      | refine o_gy rfl ?_
      | refine o_gn rfl rfl ?_
      | refine o_gt rfl ?_
      | refine o_mov rfl ?_
      | refine o_load rfl rfl ?_
      | refine o_loadn rfl rfl rfl rfl ?_
      | refine o_store rfl rfl rfl rfl rfl rfl rfl ?_
      | refine o_faddrm rfl ?_
      | refine o_faddrv rfl rfl rfl ?_
      | refine o_idxarrm rfl rfl rfl ?_
      | refine o_alloc ?_
      | refine o_pickt rfl rfl ?_
      | refine o_pickf rfl rfl ?_
      | refine o_un rfl rfl ?_
      | refine o_len rfl rfl ?_
      | refine o_build rfl rfl ?_
      | refine o_bslice rfl rfl ?_
      | refine o_box rfl rfl ?_
      | refine o_minmax2 rfl rfl rfl ?_
      | refine o_field rfl rfl ?_
      | refine o_append rfl rfl rfl rfl ?_
      | refine o_extract rfl rfl ?_
      | refine o_lenc ?_
      | refine z_drawn0 env0_ok rfl rfl rfl ?_
      | refine o_bin (op := .add) rfl rfl rfl ?_
      | refine o_bin (op := .sub) rfl rfl rfl ?_
      | refine o_eqbt rfl rfl rfl ?_
      | refine o_eqbf rfl rfl rfl ?_
      | refine o_cmpt rfl rfl rfl ?_
      | refine o_cmpf rfl rfl rfl ?_)
    refine u_end ⟨.inr rfl, _, rfl, ?_⟩
    rw [← bad (by rw [he]; decide), he]
    rfl
  have h2 : ¬ 256 < l.length := by
    have := of_decide_eq_false h1
    omega
  have hl : l.length ≤ 600 := by omega
  repeat (first
    | refine z_seq ?_
    | refine z_region rfl ?_
    | refine o_nil ?_
    | refine u_seq ?_
    | refine u_blk ?_
    | refine z_block ?_
    | refine z_skip ?_
    | refine z_ct rfl ?_
    | refine z_cf rfl ?_
    | refine z_exit ?_
    | refine z_ret ?_
    | refine u_exit ?_
    | refine u_exit_seq ?_
    | refine u_exit_other rfl ?_
    | refine u_ret_seq ?_
    | refine u_ret_blk ?_
    | refine o_gy rfl ?_
    | refine o_gn rfl rfl ?_
    | refine o_gt rfl ?_
    | refine o_mov rfl ?_
    | refine o_load rfl rfl ?_
    | refine o_loadn rfl rfl rfl rfl ?_
    | refine o_store rfl rfl rfl rfl rfl rfl rfl ?_
    | refine o_faddrm rfl ?_
    | refine o_faddrv rfl rfl rfl ?_
    | refine o_idxarrm rfl rfl rfl ?_
    | refine o_alloc ?_
    | refine o_pickt rfl rfl ?_
    | refine o_pickf rfl rfl ?_
    | refine o_un rfl rfl ?_
    | refine o_len rfl rfl ?_
    | refine o_build rfl rfl ?_
    | refine o_bslice rfl rfl ?_
    | refine o_box rfl rfl ?_
    | refine o_minmax2 rfl rfl rfl ?_
    | refine o_field rfl rfl ?_
    | refine o_append rfl rfl rfl rfl ?_
    | refine o_extract rfl rfl ?_
    | refine o_lenc ?_
    | refine z_drawn0 env0_ok rfl rfl rfl ?_
    | refine o_bin (op := .add) rfl rfl rfl ?_
    | refine o_bin (op := .sub) rfl rfl rfl ?_
    | refine o_eqbt rfl rfl rfl ?_
    | refine o_eqbf rfl rfl rfl ?_
    | refine o_cmpt rfl rfl rfl ?_
    | refine o_cmpf rfl rfl rfl ?_)
  refine z_loop (fun m S => ∃ i, m = l.length - i ∧ i ≤ l.length ∧ chk none l = chk (prevE l i) (l.drop i) ∧
     S = st 145 [(0, .vs (l.map rowE)), (1, .int .i64 w), (19, .vs (l.map rowE)), (20, .int .i64 (l.map rowE).length), (21, .int .i64 (i : Nat))] [] 0 1) l.length
    (sub_ren0 (.cons rfl (.same rfl) (.cons rfl (.same rfl) (.cons rfl (.same rfl) (.cons rfl (.same rfl) (.cons rfl (.same rfl) .nil)))))) ⟨0, rfl, Nat.zero_le _, rfl, rfl⟩ ?_
  rintro m S ⟨i, rfl, hi, hck, rfl⟩
  unfold body17a
  repeat (first
    | refine z_seq ?_
    | refine z_region rfl ?_
    | refine o_nil ?_
    | refine u_seq ?_
    | refine u_blk ?_
    | refine z_block ?_
    | refine z_skip ?_
    | refine z_ct rfl ?_
    | refine z_cf rfl ?_
    | refine z_exit ?_
    | refine z_ret ?_
    | refine u_exit ?_
    | refine u_exit_seq ?_
    | refine u_exit_other rfl ?_
    | refine u_ret_seq ?_
    | refine u_ret_blk ?_
    | refine o_gy rfl ?_
    | refine o_gn rfl rfl ?_
    | refine o_gt rfl ?_
    | refine o_mov rfl ?_
    | refine o_load rfl rfl ?_
    | refine o_loadn rfl rfl rfl rfl ?_
    | refine o_store rfl rfl rfl rfl rfl rfl rfl ?_
    | refine o_faddrm rfl ?_
    | refine o_faddrv rfl rfl rfl ?_
    | refine o_idxarrm rfl rfl rfl ?_
    | refine o_alloc ?_
    | refine o_pickt rfl rfl ?_
    | refine o_pickf rfl rfl ?_
    | refine o_un rfl rfl ?_
    | refine o_len rfl rfl ?_
    | refine o_build rfl rfl ?_
    | refine o_bslice rfl rfl ?_
    | refine o_box rfl rfl ?_
    | refine o_minmax2 rfl rfl rfl ?_
    | refine o_field rfl rfl ?_
    | refine o_append rfl rfl rfl rfl ?_
    | refine o_extract rfl rfl ?_
    | refine o_lenc ?_
    | refine z_drawn0 env0_ok rfl rfl rfl ?_
    | refine o_bin (op := .add) rfl rfl rfl ?_
    | refine o_bin (op := .sub) rfl rfl rfl ?_
    | refine o_eqbt rfl rfl rfl ?_
    | refine o_eqbf rfl rfl rfl ?_
    | refine o_cmpt rfl rfl rfl ?_
    | refine o_cmpf rfl rfl rfl ?_)
  refine o_cmp rfl rfl rfl (fun h3 => ?_) fun h3 => ?_
  · have hlt : i < l.length := by
      have := of_decide_eq_true h3
      omega
    have ge : (l.map rowE)[((i : Nat) : Int).toNat]? = some (rowE l[i]) := by simp [hlt]
    have hd : l.drop i = l[i] :: l.drop (i + 1) := List.drop_eq_getElem_cons hlt
    rw [hd] at hck
    have fin2 : (l[i].1 < 0 ∨ 1000000 < l[i].1) → evErr l w = 2 := fun hx => by
      unfold evErr
      rw [if_neg h2, hck, chk, if_pos hx, if_pos (by decide)]
    have fin9 : ¬ (l[i].1 < 0 ∨ 1000000 < l[i].1) → before (prevE l i) l[i].1 = true → evErr l w = 9 := fun hx hy => by
      unfold evErr
      rw [if_neg h2, hck, chk, if_neg hx, if_pos hy, if_pos (by decide)]
    repeat (first
      | refine z_seq ?_
      | refine z_region rfl ?_
      | refine o_nil ?_
      | refine u_seq ?_
      | refine u_blk ?_
      | refine z_block ?_
      | refine z_skip ?_
      | refine z_ct rfl ?_
      | refine z_cf rfl ?_
      | refine z_exit ?_
      | refine z_ret ?_
      | refine u_exit ?_
      | refine u_exit_seq ?_
      | refine u_exit_other rfl ?_
      | refine u_ret_seq ?_
      | refine u_ret_blk ?_
      | refine o_gy rfl ?_
      | refine o_gn rfl rfl ?_
      | refine o_gt rfl ?_
      | refine o_mov rfl ?_
      | refine o_load rfl rfl ?_
      | refine o_loadn rfl rfl rfl rfl ?_
      | refine o_store rfl rfl rfl rfl rfl rfl rfl ?_
      | refine o_faddrm rfl ?_
      | refine o_faddrv rfl rfl rfl ?_
      | refine o_idxarrm rfl rfl rfl ?_
      | refine o_alloc ?_
      | refine o_pickt rfl rfl ?_
      | refine o_pickf rfl rfl ?_
      | refine o_un rfl rfl ?_
      | refine o_len rfl rfl ?_
      | refine o_build rfl rfl ?_
      | refine o_bslice rfl rfl ?_
      | refine o_box rfl rfl ?_
      | refine o_minmax2 rfl rfl rfl ?_
      | refine o_field rfl rfl ?_
      | refine o_append rfl rfl rfl rfl ?_
      | refine o_extract rfl rfl ?_
      | refine o_lenc ?_
      | refine z_drawn0 env0_ok rfl rfl rfl ?_
      | refine o_bin (op := .add) rfl rfl rfl ?_
      | refine o_bin (op := .sub) rfl rfl rfl ?_
      | refine o_eqbt rfl rfl rfl ?_
      | refine o_eqbf rfl rfl rfl ?_
      | refine o_cmpt rfl rfl rfl ?_
      | refine o_cmpf rfl rfl rfl ?_)
    refine o_idxs rfl rfl (Int.natCast_nonneg i) ge rfl ?_
    repeat (first
      | refine z_seq ?_
      | refine z_region rfl ?_
      | refine o_nil ?_
      | refine u_seq ?_
      | refine u_blk ?_
      | refine z_block ?_
      | refine z_skip ?_
      | refine z_ct rfl ?_
      | refine z_cf rfl ?_
      | refine z_exit ?_
      | refine z_ret ?_
      | refine u_exit ?_
      | refine u_exit_seq ?_
      | refine u_exit_other rfl ?_
      | refine u_ret_seq ?_
      | refine u_ret_blk ?_
      | refine o_gy rfl ?_
      | refine o_gn rfl rfl ?_
      | refine o_gt rfl ?_
      | refine o_mov rfl ?_
      | refine o_load rfl rfl ?_
      | refine o_loadn rfl rfl rfl rfl ?_
      | refine o_store rfl rfl rfl rfl rfl rfl rfl ?_
      | refine o_faddrm rfl ?_
      | refine o_faddrv rfl rfl rfl ?_
      | refine o_idxarrm rfl rfl rfl ?_
      | refine o_alloc ?_
      | refine o_pickt rfl rfl ?_
      | refine o_pickf rfl rfl ?_
      | refine o_un rfl rfl ?_
      | refine o_len rfl rfl ?_
      | refine o_build rfl rfl ?_
      | refine o_bslice rfl rfl ?_
      | refine o_box rfl rfl ?_
      | refine o_minmax2 rfl rfl rfl ?_
      | refine o_field rfl rfl ?_
      | refine o_append rfl rfl rfl rfl ?_
      | refine o_extract rfl rfl ?_
      | refine o_lenc ?_
      | refine z_drawn0 env0_ok rfl rfl rfl ?_
      | refine o_bin (op := .add) rfl rfl rfl ?_
      | refine o_bin (op := .sub) rfl rfl rfl ?_
      | refine o_eqbt rfl rfl rfl ?_
      | refine o_eqbf rfl rfl rfl ?_
      | refine o_cmpt rfl rfl rfl ?_
      | refine o_cmpf rfl rfl rfl ?_)
    refine o_cmp rfl rfl rfl (fun h4 => ?_) fun h4 => ?_
    · have he := fin2 (.inl (of_decide_eq_true h4))
      repeat (first
        | refine z_seq ?_
        | refine z_region rfl ?_
        | refine o_nil ?_
        | refine u_seq ?_
        | refine u_blk ?_
        | refine z_block ?_
        | refine z_skip ?_
        | refine z_ct rfl ?_
        | refine z_cf rfl ?_
        | refine z_exit ?_
        | refine z_ret ?_
        | refine u_exit ?_
        | refine u_exit_seq ?_
        | refine u_exit_other rfl ?_
        | refine u_ret_seq ?_
        | refine u_ret_blk ?_
        | refine o_gy rfl ?_
        | refine o_gn rfl rfl ?_
        | refine o_gt rfl ?_
        | refine o_mov rfl ?_
        | refine o_load rfl rfl ?_
        | refine o_loadn rfl rfl rfl rfl ?_
        | refine o_store rfl rfl rfl rfl rfl rfl rfl ?_
        | refine o_faddrm rfl ?_
        | refine o_faddrv rfl rfl rfl ?_
        | refine o_idxarrm rfl rfl rfl ?_
        | refine o_alloc ?_
        | refine o_pickt rfl rfl ?_
        | refine o_pickf rfl rfl ?_
        | refine o_un rfl rfl ?_
        | refine o_len rfl rfl ?_
        | refine o_build rfl rfl ?_
        | refine o_bslice rfl rfl ?_
        | refine o_box rfl rfl ?_
        | refine o_minmax2 rfl rfl rfl ?_
        | refine o_field rfl rfl ?_
        | refine o_append rfl rfl rfl rfl ?_
        | refine o_extract rfl rfl ?_
        | refine o_lenc ?_
        | refine z_drawn0 env0_ok rfl rfl rfl ?_
        | refine o_bin (op := .add) rfl rfl rfl ?_
        | refine o_bin (op := .sub) rfl rfl rfl ?_
        | refine o_eqbt rfl rfl rfl ?_
        | refine o_eqbf rfl rfl rfl ?_
        | refine o_cmpt rfl rfl rfl ?_
        | refine o_cmpf rfl rfl rfl ?_)
      refine u_out_ret ?_
      repeat (first
        | refine z_seq ?_
        | refine z_region rfl ?_
        | refine o_nil ?_
        | refine u_seq ?_
        | refine u_blk ?_
        | refine z_block ?_
        | refine z_skip ?_
        | refine z_ct rfl ?_
        | refine z_cf rfl ?_
        | refine z_exit ?_
        | refine z_ret ?_
        | refine u_exit ?_
        | refine u_exit_seq ?_
        | refine u_exit_other rfl ?_
        | refine u_ret_seq ?_
        | refine u_ret_blk ?_
        | refine o_gy rfl ?_
        | refine o_gn rfl rfl ?_
        | refine o_gt rfl ?_
        | refine o_mov rfl ?_
        | refine o_load rfl rfl ?_
        | refine o_loadn rfl rfl rfl rfl ?_
        | refine o_store rfl rfl rfl rfl rfl rfl rfl ?_
        | refine o_faddrm rfl ?_
        | refine o_faddrv rfl rfl rfl ?_
        | refine o_idxarrm rfl rfl rfl ?_
        | refine o_alloc ?_
        | refine o_pickt rfl rfl ?_
        | refine o_pickf rfl rfl ?_
        | refine o_un rfl rfl ?_
        | refine o_len rfl rfl ?_
        | refine o_build rfl rfl ?_
        | refine o_bslice rfl rfl ?_
        | refine o_box rfl rfl ?_
        | refine o_minmax2 rfl rfl rfl ?_
        | refine o_field rfl rfl ?_
        | refine o_append rfl rfl rfl rfl ?_
        | refine o_extract rfl rfl ?_
        | refine o_lenc ?_
        | refine z_drawn0 env0_ok rfl rfl rfl ?_
        | refine o_bin (op := .add) rfl rfl rfl ?_
        | refine o_bin (op := .sub) rfl rfl rfl ?_
        | refine o_eqbt rfl rfl rfl ?_
        | refine o_eqbf rfl rfl rfl ?_
        | refine o_cmpt rfl rfl rfl ?_
        | refine o_cmpf rfl rfl rfl ?_)
      refine u_end ⟨.inr rfl, _, rfl, ?_⟩
      rw [← bad (by rw [he]; decide), he]
      rfl
    have h5 := of_decide_eq_false h4
    repeat (first
      | refine z_seq ?_
      | refine z_region rfl ?_
      | refine o_nil ?_
      | refine u_seq ?_
      | refine u_blk ?_
      | refine z_block ?_
      | refine z_skip ?_
      | refine z_ct rfl ?_
      | refine z_cf rfl ?_
      | refine z_exit ?_
      | refine z_ret ?_
      | refine u_exit ?_
      | refine u_exit_seq ?_
      | refine u_exit_other rfl ?_
      | refine u_ret_seq ?_
      | refine u_ret_blk ?_
      | refine o_gy rfl ?_
      | refine o_gn rfl rfl ?_
      | refine o_gt rfl ?_
      | refine o_mov rfl ?_
      | refine o_load rfl rfl ?_
      | refine o_loadn rfl rfl rfl rfl ?_
      | refine o_store rfl rfl rfl rfl rfl rfl rfl ?_
      | refine o_faddrm rfl ?_
      | refine o_faddrv rfl rfl rfl ?_
      | refine o_idxarrm rfl rfl rfl ?_
      | refine o_alloc ?_
      | refine o_pickt rfl rfl ?_
      | refine o_pickf rfl rfl ?_
      | refine o_un rfl rfl ?_
      | refine o_len rfl rfl ?_
      | refine o_build rfl rfl ?_
      | refine o_bslice rfl rfl ?_
      | refine o_box rfl rfl ?_
      | refine o_minmax2 rfl rfl rfl ?_
      | refine o_field rfl rfl ?_
      | refine o_append rfl rfl rfl rfl ?_
      | refine o_extract rfl rfl ?_
      | refine o_lenc ?_
      | refine z_drawn0 env0_ok rfl rfl rfl ?_
      | refine o_bin (op := .add) rfl rfl rfl ?_
      | refine o_bin (op := .sub) rfl rfl rfl ?_
      | refine o_eqbt rfl rfl rfl ?_
      | refine o_eqbf rfl rfl rfl ?_
      | refine o_cmpt rfl rfl rfl ?_
      | refine o_cmpf rfl rfl rfl ?_)
    refine o_cmp rfl rfl rfl (fun h6 => ?_) fun h6 => ?_
    · have he := fin2 (.inr (of_decide_eq_true h6))
      repeat (first
        | refine z_seq ?_
        | refine z_region rfl ?_
        | refine o_nil ?_
        | refine u_seq ?_
        | refine u_blk ?_
        | refine z_block ?_
        | refine z_skip ?_
        | refine z_ct rfl ?_
        | refine z_cf rfl ?_
        | refine z_exit ?_
        | refine z_ret ?_
        | refine u_exit ?_
        | refine u_exit_seq ?_
        | refine u_exit_other rfl ?_
        | refine u_ret_seq ?_
        | refine u_ret_blk ?_
        | refine o_gy rfl ?_
        | refine o_gn rfl rfl ?_
        | refine o_gt rfl ?_
        | refine o_mov rfl ?_
        | refine o_load rfl rfl ?_
        | refine o_loadn rfl rfl rfl rfl ?_
        | refine o_store rfl rfl rfl rfl rfl rfl rfl ?_
        | refine o_faddrm rfl ?_
        | refine o_faddrv rfl rfl rfl ?_
        | refine o_idxarrm rfl rfl rfl ?_
        | refine o_alloc ?_
        | refine o_pickt rfl rfl ?_
        | refine o_pickf rfl rfl ?_
        | refine o_un rfl rfl ?_
        | refine o_len rfl rfl ?_
        | refine o_build rfl rfl ?_
        | refine o_bslice rfl rfl ?_
        | refine o_box rfl rfl ?_
        | refine o_minmax2 rfl rfl rfl ?_
        | refine o_field rfl rfl ?_
        | refine o_append rfl rfl rfl rfl ?_
        | refine o_extract rfl rfl ?_
        | refine o_lenc ?_
        | refine z_drawn0 env0_ok rfl rfl rfl ?_
        | refine o_bin (op := .add) rfl rfl rfl ?_
        | refine o_bin (op := .sub) rfl rfl rfl ?_
        | refine o_eqbt rfl rfl rfl ?_
        | refine o_eqbf rfl rfl rfl ?_
        | refine o_cmpt rfl rfl rfl ?_
        | refine o_cmpf rfl rfl rfl ?_)
      refine u_out_ret ?_
      repeat (first
        | refine z_seq ?_
        | refine z_region rfl ?_
        | refine o_nil ?_
        | refine u_seq ?_
        | refine u_blk ?_
        | refine z_block ?_
        | refine z_skip ?_
        | refine z_ct rfl ?_
        | refine z_cf rfl ?_
        | refine z_exit ?_
        | refine z_ret ?_
        | refine u_exit ?_
        | refine u_exit_seq ?_
        | refine u_exit_other rfl ?_
        | refine u_ret_seq ?_
        | refine u_ret_blk ?_
        | refine o_gy rfl ?_
        | refine o_gn rfl rfl ?_
        | refine o_gt rfl ?_
        | refine o_mov rfl ?_
        | refine o_load rfl rfl ?_
        | refine o_loadn rfl rfl rfl rfl ?_
        | refine o_store rfl rfl rfl rfl rfl rfl rfl ?_
        | refine o_faddrm rfl ?_
        | refine o_faddrv rfl rfl rfl ?_
        | refine o_idxarrm rfl rfl rfl ?_
        | refine o_alloc ?_
        | refine o_pickt rfl rfl ?_
        | refine o_pickf rfl rfl ?_
        | refine o_un rfl rfl ?_
        | refine o_len rfl rfl ?_
        | refine o_build rfl rfl ?_
        | refine o_bslice rfl rfl ?_
        | refine o_box rfl rfl ?_
        | refine o_minmax2 rfl rfl rfl ?_
        | refine o_field rfl rfl ?_
        | refine o_append rfl rfl rfl rfl ?_
        | refine o_extract rfl rfl ?_
        | refine o_lenc ?_
        | refine z_drawn0 env0_ok rfl rfl rfl ?_
        | refine o_bin (op := .add) rfl rfl rfl ?_
        | refine o_bin (op := .sub) rfl rfl rfl ?_
        | refine o_eqbt rfl rfl rfl ?_
        | refine o_eqbf rfl rfl rfl ?_
        | refine o_cmpt rfl rfl rfl ?_
        | refine o_cmpf rfl rfl rfl ?_)
      refine u_end ⟨.inr rfl, _, rfl, ?_⟩
      rw [← bad (by rw [he]; decide), he]
      rfl
    have h7 := of_decide_eq_false h6
    have h8 : ¬ (l[i].1 < 0 ∨ 1000000 < l[i].1) := fun hx => hx.elim h5 h7
    have next : before (prevE l i) l[i].1 = false → chk none l = chk (prevE l (i + 1)) (l.drop (i + 1)) := fun hy => by
      rw [hck, chk, if_neg h8, if_neg (by rw [hy]; simp), prevE_succ hlt]
    repeat (first
      | refine z_seq ?_
      | refine z_region rfl ?_
      | refine o_nil ?_
      | refine u_seq ?_
      | refine u_blk ?_
      | refine z_block ?_
      | refine z_skip ?_
      | refine z_ct rfl ?_
      | refine z_cf rfl ?_
      | refine z_exit ?_
      | refine z_ret ?_
      | refine u_exit ?_
      | refine u_exit_seq ?_
      | refine u_exit_other rfl ?_
      | refine u_ret_seq ?_
      | refine u_ret_blk ?_
      | refine o_gy rfl ?_
      | refine o_gn rfl rfl ?_
      | refine o_gt rfl ?_
      | refine o_mov rfl ?_
      | refine o_load rfl rfl ?_
      | refine o_loadn rfl rfl rfl rfl ?_
      | refine o_store rfl rfl rfl rfl rfl rfl rfl ?_
      | refine o_faddrm rfl ?_
      | refine o_faddrv rfl rfl rfl ?_
      | refine o_idxarrm rfl rfl rfl ?_
      | refine o_alloc ?_
      | refine o_pickt rfl rfl ?_
      | refine o_pickf rfl rfl ?_
      | refine o_un rfl rfl ?_
      | refine o_len rfl rfl ?_
      | refine o_build rfl rfl ?_
      | refine o_bslice rfl rfl ?_
      | refine o_box rfl rfl ?_
      | refine o_minmax2 rfl rfl rfl ?_
      | refine o_field rfl rfl ?_
      | refine o_append rfl rfl rfl rfl ?_
      | refine o_extract rfl rfl ?_
      | refine o_lenc ?_
      | refine z_drawn0 env0_ok rfl rfl rfl ?_
      | refine o_bin (op := .add) rfl rfl rfl ?_
      | refine o_bin (op := .sub) rfl rfl rfl ?_
      | refine o_eqbt rfl rfl rfl ?_
      | refine o_eqbf rfl rfl rfl ?_
      | refine o_cmpt rfl rfl rfl ?_
      | refine o_cmpf rfl rfl rfl ?_)
    refine o_cmp rfl rfl rfl (fun h9 => ?_) fun h9 => ?_
    · have h0 : 0 < i := by
        have := of_decide_eq_true h9
        omega
      have hp : prevE l i = some l[i - 1].1 := by
        unfold prevE
        rw [if_neg (by omega), List.getElem?_eq_getElem (by omega)]; rfl
      have gp : (l.map rowE)[(IntKind.wrap .i64 ((i : Int) - 1)).toNat]? = some (rowE l[i - 1]) := by rw [wrap_pred i h0 (by omega), Int.toNat_natCast]; simp [show i - 1 < l.length by omega]
      repeat (first
        | refine z_seq ?_
        | refine z_region rfl ?_
        | refine o_nil ?_
        | refine u_seq ?_
        | refine u_blk ?_
        | refine z_block ?_
        | refine z_skip ?_
        | refine z_ct rfl ?_
        | refine z_cf rfl ?_
        | refine z_exit ?_
        | refine z_ret ?_
        | refine u_exit ?_
        | refine u_exit_seq ?_
        | refine u_exit_other rfl ?_
        | refine u_ret_seq ?_
        | refine u_ret_blk ?_
        | refine o_gy rfl ?_
        | refine o_gn rfl rfl ?_
        | refine o_gt rfl ?_
        | refine o_mov rfl ?_
        | refine o_load rfl rfl ?_
        | refine o_loadn rfl rfl rfl rfl ?_
        | refine o_store rfl rfl rfl rfl rfl rfl rfl ?_
        | refine o_faddrm rfl ?_
        | refine o_faddrv rfl rfl rfl ?_
        | refine o_idxarrm rfl rfl rfl ?_
        | refine o_alloc ?_
        | refine o_pickt rfl rfl ?_
        | refine o_pickf rfl rfl ?_
        | refine o_un rfl rfl ?_
        | refine o_len rfl rfl ?_
        | refine o_build rfl rfl ?_
        | refine o_bslice rfl rfl ?_
        | refine o_box rfl rfl ?_
        | refine o_minmax2 rfl rfl rfl ?_
        | refine o_field rfl rfl ?_
        | refine o_append rfl rfl rfl rfl ?_
        | refine o_extract rfl rfl ?_
        | refine o_lenc ?_
        | refine z_drawn0 env0_ok rfl rfl rfl ?_
        | refine o_bin (op := .add) rfl rfl rfl ?_
        | refine o_bin (op := .sub) rfl rfl rfl ?_
        | refine o_eqbt rfl rfl rfl ?_
        | refine o_eqbf rfl rfl rfl ?_
        | refine o_cmpt rfl rfl rfl ?_
        | refine o_cmpf rfl rfl rfl ?_)
      refine o_idxs rfl rfl (by rw [wrap_pred i h0 (by omega)]; omega) gp rfl ?_
      repeat (first
        | refine z_seq ?_
        | refine z_region rfl ?_
        | refine o_nil ?_
        | refine u_seq ?_
        | refine u_blk ?_
        | refine z_block ?_
        | refine z_skip ?_
        | refine z_ct rfl ?_
        | refine z_cf rfl ?_
        | refine z_exit ?_
        | refine z_ret ?_
        | refine u_exit ?_
        | refine u_exit_seq ?_
        | refine u_exit_other rfl ?_
        | refine u_ret_seq ?_
        | refine u_ret_blk ?_
        | refine o_gy rfl ?_
        | refine o_gn rfl rfl ?_
        | refine o_gt rfl ?_
        | refine o_mov rfl ?_
        | refine o_load rfl rfl ?_
        | refine o_loadn rfl rfl rfl rfl ?_
        | refine o_store rfl rfl rfl rfl rfl rfl rfl ?_
        | refine o_faddrm rfl ?_
        | refine o_faddrv rfl rfl rfl ?_
        | refine o_idxarrm rfl rfl rfl ?_
        | refine o_alloc ?_
        | refine o_pickt rfl rfl ?_
        | refine o_pickf rfl rfl ?_
        | refine o_un rfl rfl ?_
        | refine o_len rfl rfl ?_
        | refine o_build rfl rfl ?_
        | refine o_bslice rfl rfl ?_
        | refine o_box rfl rfl ?_
        | refine o_minmax2 rfl rfl rfl ?_
        | refine o_field rfl rfl ?_
        | refine o_append rfl rfl rfl rfl ?_
        | refine o_extract rfl rfl ?_
        | refine o_lenc ?_
        | refine z_drawn0 env0_ok rfl rfl rfl ?_
        | refine o_bin (op := .add) rfl rfl rfl ?_
        | refine o_bin (op := .sub) rfl rfl rfl ?_
        | refine o_eqbt rfl rfl rfl ?_
        | refine o_eqbf rfl rfl rfl ?_
        | refine o_cmpt rfl rfl rfl ?_
        | refine o_cmpf rfl rfl rfl ?_)
      refine o_cmp rfl rfl rfl (fun h10 => ?_) fun h10 => ?_
      · have he := fin9 h8 (by rw [hp]; exact h10)
        repeat (first
          | refine z_seq ?_
          | refine z_region rfl ?_
          | refine o_nil ?_
          | refine u_seq ?_
          | refine u_blk ?_
          | refine z_block ?_
          | refine z_skip ?_
          | refine z_ct rfl ?_
          | refine z_cf rfl ?_
          | refine z_exit ?_
          | refine z_ret ?_
          | refine u_exit ?_
          | refine u_exit_seq ?_
          | refine u_exit_other rfl ?_
          | refine u_ret_seq ?_
          | refine u_ret_blk ?_
          | refine o_gy rfl ?_
          | refine o_gn rfl rfl ?_
          | refine o_gt rfl ?_
          | refine o_mov rfl ?_
          | refine o_load rfl rfl ?_
          | refine o_loadn rfl rfl rfl rfl ?_
          | refine o_store rfl rfl rfl rfl rfl rfl rfl ?_
          | refine o_faddrm rfl ?_
          | refine o_faddrv rfl rfl rfl ?_
          | refine o_idxarrm rfl rfl rfl ?_
          | refine o_alloc ?_
          | refine o_pickt rfl rfl ?_
          | refine o_pickf rfl rfl ?_
          | refine o_un rfl rfl ?_
          | refine o_len rfl rfl ?_
          | refine o_build rfl rfl ?_
          | refine o_bslice rfl rfl ?_
          | refine o_box rfl rfl ?_
          | refine o_minmax2 rfl rfl rfl ?_
          | refine o_field rfl rfl ?_
          | refine o_append rfl rfl rfl rfl ?_
          | refine o_extract rfl rfl ?_
          | refine o_lenc ?_
          | refine z_drawn0 env0_ok rfl rfl rfl ?_
          | refine o_bin (op := .add) rfl rfl rfl ?_
          | refine o_bin (op := .sub) rfl rfl rfl ?_
          | refine o_eqbt rfl rfl rfl ?_
          | refine o_eqbf rfl rfl rfl ?_
          | refine o_cmpt rfl rfl rfl ?_
          | refine o_cmpf rfl rfl rfl ?_)
        refine u_out_ret ?_
        repeat (first
          | refine z_seq ?_
          | refine z_region rfl ?_
          | refine o_nil ?_
          | refine u_seq ?_
          | refine u_blk ?_
          | refine z_block ?_
          | refine z_skip ?_
          | refine z_ct rfl ?_
          | refine z_cf rfl ?_
          | refine z_exit ?_
          | refine z_ret ?_
          | refine u_exit ?_
          | refine u_exit_seq ?_
          | refine u_exit_other rfl ?_
          | refine u_ret_seq ?_
          | refine u_ret_blk ?_
          | refine o_gy rfl ?_
          | refine o_gn rfl rfl ?_
          | refine o_gt rfl ?_
          | refine o_mov rfl ?_
          | refine o_load rfl rfl ?_
          | refine o_loadn rfl rfl rfl rfl ?_
          | refine o_store rfl rfl rfl rfl rfl rfl rfl ?_
          | refine o_faddrm rfl ?_
          | refine o_faddrv rfl rfl rfl ?_
          | refine o_idxarrm rfl rfl rfl ?_
          | refine o_alloc ?_
          | refine o_pickt rfl rfl ?_
          | refine o_pickf rfl rfl ?_
          | refine o_un rfl rfl ?_
          | refine o_len rfl rfl ?_
          | refine o_build rfl rfl ?_
          | refine o_bslice rfl rfl ?_
          | refine o_box rfl rfl ?_
          | refine o_minmax2 rfl rfl rfl ?_
          | refine o_field rfl rfl ?_
          | refine o_append rfl rfl rfl rfl ?_
          | refine o_extract rfl rfl ?_
          | refine o_lenc ?_
          | refine z_drawn0 env0_ok rfl rfl rfl ?_
          | refine o_bin (op := .add) rfl rfl rfl ?_
          | refine o_bin (op := .sub) rfl rfl rfl ?_
          | refine o_eqbt rfl rfl rfl ?_
          | refine o_eqbf rfl rfl rfl ?_
          | refine o_cmpt rfl rfl rfl ?_
          | refine o_cmpf rfl rfl rfl ?_)
        refine u_end ⟨.inr rfl, _, rfl, ?_⟩
        rw [← bad (by rw [he]; decide), he]
        rfl
      · repeat (first
          | refine z_seq ?_
          | refine z_region rfl ?_
          | refine o_nil ?_
          | refine u_seq ?_
          | refine u_blk ?_
          | refine z_block ?_
          | refine z_skip ?_
          | refine z_ct rfl ?_
          | refine z_cf rfl ?_
          | refine z_exit ?_
          | refine z_ret ?_
          | refine u_exit ?_
          | refine u_exit_seq ?_
          | refine u_exit_other rfl ?_
          | refine u_ret_seq ?_
          | refine u_ret_blk ?_
          | refine o_gy rfl ?_
          | refine o_gn rfl rfl ?_
          | refine o_gt rfl ?_
          | refine o_mov rfl ?_
          | refine o_load rfl rfl ?_
          | refine o_loadn rfl rfl rfl rfl ?_
          | refine o_store rfl rfl rfl rfl rfl rfl rfl ?_
          | refine o_faddrm rfl ?_
          | refine o_faddrv rfl rfl rfl ?_
          | refine o_idxarrm rfl rfl rfl ?_
          | refine o_alloc ?_
          | refine o_pickt rfl rfl ?_
          | refine o_pickf rfl rfl ?_
          | refine o_un rfl rfl ?_
          | refine o_len rfl rfl ?_
          | refine o_build rfl rfl ?_
          | refine o_bslice rfl rfl ?_
          | refine o_box rfl rfl ?_
          | refine o_minmax2 rfl rfl rfl ?_
          | refine o_field rfl rfl ?_
          | refine o_append rfl rfl rfl rfl ?_
          | refine o_extract rfl rfl ?_
          | refine o_lenc ?_
          | refine z_drawn0 env0_ok rfl rfl rfl ?_
          | refine o_bin (op := .add) rfl rfl rfl ?_
          | refine o_bin (op := .sub) rfl rfl rfl ?_
          | refine o_eqbt rfl rfl rfl ?_
          | refine o_eqbf rfl rfl rfl ?_
          | refine o_cmpt rfl rfl rfl ?_
          | refine o_cmpf rfl rfl rfl ?_)
        exact u_round (show l.length - (i + 1) < l.length - i by omega) (sub_ren0 (.cons rfl (.same rfl) (.cons rfl (.same rfl) (.cons rfl (.same rfl) (.cons rfl (.same rfl) (.cons rfl (ren_eq (congrArg (AV.int .i64) (wrap_succ i (by omega))) rfl) .nil)))))) ⟨i + 1, rfl, hlt, next (by rw [hp]; exact h10), rfl⟩
    · have h0 : i = 0 := by
        have := of_decide_eq_false h9
        omega
      repeat (first
        | refine z_seq ?_
        | refine z_region rfl ?_
        | refine o_nil ?_
        | refine u_seq ?_
        | refine u_blk ?_
        | refine z_block ?_
        | refine z_skip ?_
        | refine z_ct rfl ?_
        | refine z_cf rfl ?_
        | refine z_exit ?_
        | refine z_ret ?_
        | refine u_exit ?_
        | refine u_exit_seq ?_
        | refine u_exit_other rfl ?_
        | refine u_ret_seq ?_
        | refine u_ret_blk ?_
        | refine o_gy rfl ?_
        | refine o_gn rfl rfl ?_
        | refine o_gt rfl ?_
        | refine o_mov rfl ?_
        | refine o_load rfl rfl ?_
        | refine o_loadn rfl rfl rfl rfl ?_
        | refine o_store rfl rfl rfl rfl rfl rfl rfl ?_
        | refine o_faddrm rfl ?_
        | refine o_faddrv rfl rfl rfl ?_
        | refine o_idxarrm rfl rfl rfl ?_
        | refine o_alloc ?_
        | refine o_pickt rfl rfl ?_
        | refine o_pickf rfl rfl ?_
        | refine o_un rfl rfl ?_
        | refine o_len rfl rfl ?_
        | refine o_build rfl rfl ?_
        | refine o_bslice rfl rfl ?_
        | refine o_box rfl rfl ?_
        | refine o_minmax2 rfl rfl rfl ?_
        | refine o_field rfl rfl ?_
        | refine o_append rfl rfl rfl rfl ?_
        | refine o_extract rfl rfl ?_
        | refine o_lenc ?_
        | refine z_drawn0 env0_ok rfl rfl rfl ?_
        | refine o_bin (op := .add) rfl rfl rfl ?_
        | refine o_bin (op := .sub) rfl rfl rfl ?_
        | refine o_eqbt rfl rfl rfl ?_
        | refine o_eqbf rfl rfl rfl ?_
        | refine o_cmpt rfl rfl rfl ?_
        | refine o_cmpf rfl rfl rfl ?_)
      exact u_round (show l.length - (i + 1) < l.length - i by omega) (sub_ren0 (.cons rfl (.same rfl) (.cons rfl (.same rfl) (.cons rfl (.same rfl) (.cons rfl (.same rfl) (.cons rfl (ren_eq (congrArg (AV.int .i64) (wrap_succ i (by omega))) rfl) .nil)))))) ⟨i + 1, rfl, hlt, next (by subst h0; rfl), rfl⟩
  have hi2 : i = l.length := by
    have := of_decide_eq_false h3
    omega
  have hck0 : chk none l = 0 := by rw [hck, hi2, List.drop_length]; rfl
  repeat (first
    | refine z_seq ?_
    | refine z_region rfl ?_
    | refine o_nil ?_
    | refine u_seq ?_
    | refine u_blk ?_
    | refine z_block ?_
    | refine z_skip ?_
    | refine z_ct rfl ?_
    | refine z_cf rfl ?_
    | refine z_exit ?_
    | refine z_ret ?_
    | refine u_exit ?_
    | refine u_exit_seq ?_
    | refine u_exit_other rfl ?_
    | refine u_ret_seq ?_
    | refine u_ret_blk ?_
    | refine o_gy rfl ?_
    | refine o_gn rfl rfl ?_
    | refine o_gt rfl ?_
    | refine o_mov rfl ?_
    | refine o_load rfl rfl ?_
    | refine o_loadn rfl rfl rfl rfl ?_
    | refine o_store rfl rfl rfl rfl rfl rfl rfl ?_
    | refine o_faddrm rfl ?_
    | refine o_faddrv rfl rfl rfl ?_
    | refine o_idxarrm rfl rfl rfl ?_
    | refine o_alloc ?_
    | refine o_pickt rfl rfl ?_
    | refine o_pickf rfl rfl ?_
    | refine o_un rfl rfl ?_
    | refine o_len rfl rfl ?_
    | refine o_build rfl rfl ?_
    | refine o_bslice rfl rfl ?_
    | refine o_box rfl rfl ?_
    | refine o_minmax2 rfl rfl rfl ?_
    | refine o_field rfl rfl ?_
    | refine o_append rfl rfl rfl rfl ?_
    | refine o_extract rfl rfl ?_
    | refine o_lenc ?_
    | refine z_drawn0 env0_ok rfl rfl rfl ?_
    | refine o_bin (op := .add) rfl rfl rfl ?_
    | refine o_bin (op := .sub) rfl rfl rfl ?_
    | refine o_eqbt rfl rfl rfl ?_
    | refine o_eqbf rfl rfl rfl ?_
    | refine o_cmpt rfl rfl rfl ?_
    | refine o_cmpf rfl rfl rfl ?_)
  refine u_out ?_
  repeat (first
    | refine z_seq ?_
    | refine z_region rfl ?_
    | refine o_nil ?_
    | refine u_seq ?_
    | refine u_blk ?_
    | refine z_block ?_
    | refine z_skip ?_
    | refine z_ct rfl ?_
    | refine z_cf rfl ?_
    | refine z_exit ?_
    | refine z_ret ?_
    | refine u_exit ?_
    | refine u_exit_seq ?_
    | refine u_exit_other rfl ?_
    | refine u_ret_seq ?_
    | refine u_ret_blk ?_
    | refine o_gy rfl ?_
    | refine o_gn rfl rfl ?_
    | refine o_gt rfl ?_
    | refine o_mov rfl ?_
    | refine o_load rfl rfl ?_
    | refine o_loadn rfl rfl rfl rfl ?_
    | refine o_store rfl rfl rfl rfl rfl rfl rfl ?_
    | refine o_faddrm rfl ?_
    | refine o_faddrv rfl rfl rfl ?_
    | refine o_idxarrm rfl rfl rfl ?_
    | refine o_alloc ?_
    | refine o_pickt rfl rfl ?_
    | refine o_pickf rfl rfl ?_
    | refine o_un rfl rfl ?_
    | refine o_len rfl rfl ?_
    | refine o_build rfl rfl ?_
    | refine o_bslice rfl rfl ?_
    | refine o_box rfl rfl ?_
    | refine o_minmax2 rfl rfl rfl ?_
    | refine o_field rfl rfl ?_
    | refine o_append rfl rfl rfl rfl ?_
    | refine o_extract rfl rfl ?_
    | refine o_lenc ?_
    | refine z_drawn0 env0_ok rfl rfl rfl ?_
    | refine o_bin (op := .add) rfl rfl rfl ?_
    | refine o_bin (op := .sub) rfl rfl rfl ?_
    | refine o_eqbt rfl rfl rfl ?_
    | refine o_eqbf rfl rfl rfl ?_
    | refine o_cmpt rfl rfl rfl ?_
    | refine o_cmpf rfl rfl rfl ?_)
  have fw2 : (w < 0 ∨ 1000000 < w) → evErr l w = 2 := fun hx => by
    unfold evErr
    rw [if_neg h2, hck0, if_neg (by decide), if_pos hx]
  refine o_cmp rfl rfl rfl (fun h4 => ?_) fun h4 => ?_
  · have he := fw2 (.inl (of_decide_eq_true h4))
    repeat (first
      | refine z_seq ?_
      | refine z_region rfl ?_
      | refine o_nil ?_
      | refine u_seq ?_
      | refine u_blk ?_
      | refine z_block ?_
      | refine z_skip ?_
      | refine z_ct rfl ?_
      | refine z_cf rfl ?_
      | refine z_exit ?_
      | refine z_ret ?_
      | refine u_exit ?_
      | refine u_exit_seq ?_
      | refine u_exit_other rfl ?_
      | refine u_ret_seq ?_
      | refine u_ret_blk ?_
      | refine o_gy rfl ?_
      | refine o_gn rfl rfl ?_
      | refine o_gt rfl ?_
      | refine o_mov rfl ?_
      | refine o_load rfl rfl ?_
      | refine o_loadn rfl rfl rfl rfl ?_
      | refine o_store rfl rfl rfl rfl rfl rfl rfl ?_
      | refine o_faddrm rfl ?_
      | refine o_faddrv rfl rfl rfl ?_
      | refine o_idxarrm rfl rfl rfl ?_
      | refine o_alloc ?_
      | refine o_pickt rfl rfl ?_
      | refine o_pickf rfl rfl ?_
      | refine o_un rfl rfl ?_
      | refine o_len rfl rfl ?_
      | refine o_build rfl rfl ?_
      | refine o_bslice rfl rfl ?_
      | refine o_box rfl rfl ?_
      | refine o_minmax2 rfl rfl rfl ?_
      | refine o_field rfl rfl ?_
      | refine o_append rfl rfl rfl rfl ?_
      | refine o_extract rfl rfl ?_
      | refine o_lenc ?_
      | refine z_drawn0 env0_ok rfl rfl rfl ?_
      | refine o_bin (op := .add) rfl rfl rfl ?_
      | refine o_bin (op := .sub) rfl rfl rfl ?_
      | refine o_eqbt rfl rfl rfl ?_
      | refine o_eqbf rfl rfl rfl ?_
      | refine o_cmpt rfl rfl rfl ?_
      | refine o_cmpf rfl rfl rfl ?_)
    refine u_end ⟨.inr rfl, _, rfl, ?_⟩
    rw [← bad (by rw [he]; decide), he]
    rfl
  repeat (first
    | refine z_seq ?_
    | refine z_region rfl ?_
    | refine o_nil ?_
    | refine u_seq ?_
    | refine u_blk ?_
    | refine z_block ?_
    | refine z_skip ?_
    | refine z_ct rfl ?_
    | refine z_cf rfl ?_
    | refine z_exit ?_
    | refine z_ret ?_
    | refine u_exit ?_
    | refine u_exit_seq ?_
    | refine u_exit_other rfl ?_
    | refine u_ret_seq ?_
    | refine u_ret_blk ?_
    | refine o_gy rfl ?_
    | refine o_gn rfl rfl ?_
    | refine o_gt rfl ?_
    | refine o_mov rfl ?_
    | refine o_load rfl rfl ?_
    | refine o_loadn rfl rfl rfl rfl ?_
    | refine o_store rfl rfl rfl rfl rfl rfl rfl ?_
    | refine o_faddrm rfl ?_
    | refine o_faddrv rfl rfl rfl ?_
    | refine o_idxarrm rfl rfl rfl ?_
    | refine o_alloc ?_
    | refine o_pickt rfl rfl ?_
    | refine o_pickf rfl rfl ?_
    | refine o_un rfl rfl ?_
    | refine o_len rfl rfl ?_
    | refine o_build rfl rfl ?_
    | refine o_bslice rfl rfl ?_
    | refine o_box rfl rfl ?_
    | refine o_minmax2 rfl rfl rfl ?_
    | refine o_field rfl rfl ?_
    | refine o_append rfl rfl rfl rfl ?_
    | refine o_extract rfl rfl ?_
    | refine o_lenc ?_
    | refine z_drawn0 env0_ok rfl rfl rfl ?_
    | refine o_bin (op := .add) rfl rfl rfl ?_
    | refine o_bin (op := .sub) rfl rfl rfl ?_
    | refine o_eqbt rfl rfl rfl ?_
    | refine o_eqbf rfl rfl rfl ?_
    | refine o_cmpt rfl rfl rfl ?_
    | refine o_cmpf rfl rfl rfl ?_)
  refine o_cmp rfl rfl rfl (fun h5 => ?_) fun h5 => ?_
  · have he := fw2 (.inr (of_decide_eq_true h5))
    repeat (first
      | refine z_seq ?_
      | refine z_region rfl ?_
      | refine o_nil ?_
      | refine u_seq ?_
      | refine u_blk ?_
      | refine z_block ?_
      | refine z_skip ?_
      | refine z_ct rfl ?_
      | refine z_cf rfl ?_
      | refine z_exit ?_
      | refine z_ret ?_
      | refine u_exit ?_
      | refine u_exit_seq ?_
      | refine u_exit_other rfl ?_
      | refine u_ret_seq ?_
      | refine u_ret_blk ?_
      | refine o_gy rfl ?_
      | refine o_gn rfl rfl ?_
      | refine o_gt rfl ?_
      | refine o_mov rfl ?_
      | refine o_load rfl rfl ?_
      | refine o_loadn rfl rfl rfl rfl ?_
      | refine o_store rfl rfl rfl rfl rfl rfl rfl ?_
      | refine o_faddrm rfl ?_
      | refine o_faddrv rfl rfl rfl ?_
      | refine o_idxarrm rfl rfl rfl ?_
      | refine o_alloc ?_
      | refine o_pickt rfl rfl ?_
      | refine o_pickf rfl rfl ?_
      | refine o_un rfl rfl ?_
      | refine o_len rfl rfl ?_
      | refine o_build rfl rfl ?_
      | refine o_bslice rfl rfl ?_
      | refine o_box rfl rfl ?_
      | refine o_minmax2 rfl rfl rfl ?_
      | refine o_field rfl rfl ?_
      | refine o_append rfl rfl rfl rfl ?_
      | refine o_extract rfl rfl ?_
      | refine o_lenc ?_
      | refine z_drawn0 env0_ok rfl rfl rfl ?_
      | refine o_bin (op := .add) rfl rfl rfl ?_
      | refine o_bin (op := .sub) rfl rfl rfl ?_
      | refine o_eqbt rfl rfl rfl ?_
      | refine o_eqbf rfl rfl rfl ?_
      | refine o_cmpt rfl rfl rfl ?_
      | refine o_cmpf rfl rfl rfl ?_)
    refine u_end ⟨.inr rfl, _, rfl, ?_⟩
    rw [← bad (by rw [he]; decide), he]
    rfl
  have he : evErr l w = 0 := by
    unfold evErr
    rw [if_neg h2, hck0, if_neg (by decide), if_neg fun hx => hx.elim (of_decide_eq_false h4) (of_decide_eq_false h5)]
  repeat (first
    | refine z_seq ?_
    | refine z_region rfl ?_
    | refine o_nil ?_
    | refine u_seq ?_
    | refine u_blk ?_
    | refine z_block ?_
    | refine z_skip ?_
    | refine z_ct rfl ?_
    | refine z_cf rfl ?_
    | refine z_exit ?_
    | refine z_ret ?_
    | refine u_exit ?_
    | refine u_exit_seq ?_
    | refine u_exit_other rfl ?_
    | refine u_ret_seq ?_
    | refine u_ret_blk ?_
    | refine o_gy rfl ?_
    | refine o_gn rfl rfl ?_
    | refine o_gt rfl ?_
    | refine o_mov rfl ?_
    | refine o_load rfl rfl ?_
    | refine o_loadn rfl rfl rfl rfl ?_
    | refine o_store rfl rfl rfl rfl rfl rfl rfl ?_
    | refine o_faddrm rfl ?_
    | refine o_faddrv rfl rfl rfl ?_
    | refine o_idxarrm rfl rfl rfl ?_
    | refine o_alloc ?_
    | refine o_pickt rfl rfl ?_
    | refine o_pickf rfl rfl ?_
    | refine o_un rfl rfl ?_
    | refine o_len rfl rfl ?_
    | refine o_build rfl rfl ?_
    | refine o_bslice rfl rfl ?_
    | refine o_box rfl rfl ?_
    | refine o_minmax2 rfl rfl rfl ?_
    | refine o_field rfl rfl ?_
    | refine o_append rfl rfl rfl rfl ?_
    | refine o_extract rfl rfl ?_
    | refine o_lenc ?_
    | refine z_drawn0 env0_ok rfl rfl rfl ?_
    | refine o_bin (op := .add) rfl rfl rfl ?_
    | refine o_bin (op := .sub) rfl rfl rfl ?_
    | refine o_eqbt rfl rfl rfl ?_
    | refine o_eqbf rfl rfl rfl ?_
    | refine o_cmpt rfl rfl rfl ?_
    | refine o_cmpf rfl rfl rfl ?_)
  refine z_loop (fun m S => ∃ i, m = l.length - i ∧ i ≤ l.length ∧ (scan w (l.take i)).out.length ≤ i ∧ Mem 145 (tm17 l w i) (scan w (l.take i)) S) l.length
    (sub_ren [(0, 1, [.bool _, .bool _]), (1, 2, [.int .i64 _, .int .i64 _])] rfl rfl (by simp) (.cons rfl rfl (ren_keep rfl) (.cons rfl rfl (ren_keep rfl) .nil)) (.cons rfl (.same rfl) (.cons rfl (.same rfl) (.cons rfl (.mptr rfl) (.cons rfl (.mptr rfl) (.cons rfl (.same rfl) (.cons rfl (.same rfl) (.cons rfl (.same rfl) (.cons rfl (.same rfl) .nil))))))))) ⟨0, rfl, Nat.zero_le _, Nat.le_refl _, .none rfl⟩ ?_
  rintro m S ⟨i, rfl, hi, hb, hM⟩
  by_cases hlt : i < l.length
  · have hsc := scan_succ w hlt
    generalize scan w (l.take i) = sg at hb hM hsc
    have fin : ∀ {sg' : Hd}, sg' = sg → ∀ e S, (e = Exit.normal ∧ ∃ S', Sub0 w0 N0 S S' ∧ Mem 145 (tm17 l w (i + 1)) (hstep w sg' l[i]) S') → QLoop0 w0 N0 (fun m S => ∃ i, m = l.length - i ∧ i ≤ l.length ∧ (scan w (l.take i)).out.length ≤ i ∧ Mem 145 (tm17 l w i) (scan w (l.take i)) S) (l.length - i) (unw Try.prog w0 N0 [.blk 3, .seq (.seq (.region [⟨(some 144), .mov (.t 8), none⟩,
    ⟨(some 4), .mov (.t 144), none⟩,
    ⟨(some 5), .mov (.c (.int .i64 0)), none⟩] none) .ret)] fun e S' => (e = .normal ∨ e = .ret) ∧ ∃ v0, S'.leave.res [.t 4, .t 5] = some v0 ∧ (⟨0, .nil, S'.leave.heap, S'.leave.next, S'.leave.clk, []⟩ : AS).view VD v0 = twoRes l w) e S := by
      rintro sg' rfl e S ⟨rfl, S', hs, hM'⟩
      exact ⟨l.length - (i + 1), S', by omega, hs, i + 1, rfl, hlt, by rw [hsc]; exact hstep_len _ _ _ hb, by rw [hsc]; exact hM'⟩
    cases hM with
    | none h => exact z_mono (round17A l w i hlt hl sg.d0 sg.d1 sg.s0 sg.s1 sg.rdy w0 N0) (fin (by rw [← h]))
    | some init p q h => exact z_mono (round17B l w i hlt hl sg.d0 sg.d1 sg.s0 sg.s1 sg.rdy init p q (by rw [h] at hb; simp at hb; omega) w0 N0) (fin (by rw [← h]))
  · have hi2 : i = l.length := by omega
    subst hi2
    have hc : decide (((l.length : Nat) : Int) < ((l.map rowE).length : Int)) = false := by simp
    rw [List.take_length] at hM
    have good : twoRes l w = .tup [.vs ((scan w l).out.map rowP), .int .i64 0] := if_pos he
    unfold body17b
    cases hM with
    | none h =>
      repeat (first
        | refine z_seq ?_
        | refine z_region rfl ?_
        | refine o_nil ?_
        | refine u_seq ?_
        | refine u_blk ?_
        | refine z_block ?_
        | refine z_skip ?_
        | refine z_ct rfl ?_
        | refine z_cf rfl ?_
        | refine z_exit ?_
        | refine z_ret ?_
        | refine u_exit ?_
        | refine u_exit_seq ?_
        | refine u_exit_other rfl ?_
        | refine u_ret_seq ?_
        | refine u_ret_blk ?_
        | refine o_gy rfl ?_
        | refine o_gn rfl rfl ?_
        | refine o_gt rfl ?_
        | refine o_mov rfl ?_
        | refine o_load rfl rfl ?_
        | refine o_loadn rfl rfl rfl rfl ?_
        | refine o_store rfl rfl rfl rfl rfl rfl rfl ?_
        | refine o_faddrm rfl ?_
        | refine o_faddrv rfl rfl rfl ?_
        | refine o_idxarrm rfl rfl rfl ?_
        | refine o_alloc ?_
        | refine o_pickt rfl rfl ?_
        | refine o_pickf rfl rfl ?_
        | refine o_un rfl rfl ?_
        | refine o_len rfl rfl ?_
        | refine o_build rfl rfl ?_
        | refine o_bslice rfl rfl ?_
        | refine o_box rfl rfl ?_
        | refine o_minmax2 rfl rfl rfl ?_
        | refine o_field rfl rfl ?_
        | refine o_append rfl rfl rfl rfl ?_
        | refine o_extract rfl rfl ?_
        | refine o_lenc ?_
        | refine z_drawn0 env0_ok rfl rfl rfl ?_
        | refine o_bin (op := .add) rfl rfl rfl ?_
        | refine o_bin (op := .sub) rfl rfl rfl ?_
        | refine o_eqbt rfl rfl rfl ?_
        | refine o_eqbf rfl rfl rfl ?_
        | refine o_cmpt rfl rfl rfl ?_
        | refine o_cmpf rfl rfl rfl ?_)
      refine o_cmp rfl rfl rfl (fun h => absurd hc (by rw [h]; simp)) fun _ => ?_
      repeat (first
        | refine z_seq ?_
        | refine z_region rfl ?_
        | refine o_nil ?_
        | refine u_seq ?_
        | refine u_blk ?_
        | refine z_block ?_
        | refine z_skip ?_
        | refine z_ct rfl ?_
        | refine z_cf rfl ?_
        | refine z_exit ?_
        | refine z_ret ?_
        | refine u_exit ?_
        | refine u_exit_seq ?_
        | refine u_exit_other rfl ?_
        | refine u_ret_seq ?_
        | refine u_ret_blk ?_
        | refine o_gy rfl ?_
        | refine o_gn rfl rfl ?_
        | refine o_gt rfl ?_
        | refine o_mov rfl ?_
        | refine o_load rfl rfl ?_
        | refine o_loadn rfl rfl rfl rfl ?_
        | refine o_store rfl rfl rfl rfl rfl rfl rfl ?_
        | refine o_faddrm rfl ?_
        | refine o_faddrv rfl rfl rfl ?_
        | refine o_idxarrm rfl rfl rfl ?_
        | refine o_alloc ?_
        | refine o_pickt rfl rfl ?_
        | refine o_pickf rfl rfl ?_
        | refine o_un rfl rfl ?_
        | refine o_len rfl rfl ?_
        | refine o_build rfl rfl ?_
        | refine o_bslice rfl rfl ?_
        | refine o_box rfl rfl ?_
        | refine o_minmax2 rfl rfl rfl ?_
        | refine o_field rfl rfl ?_
        | refine o_append rfl rfl rfl rfl ?_
        | refine o_extract rfl rfl ?_
        | refine o_lenc ?_
        | refine z_drawn0 env0_ok rfl rfl rfl ?_
        | refine o_bin (op := .add) rfl rfl rfl ?_
        | refine o_bin (op := .sub) rfl rfl rfl ?_
        | refine o_eqbt rfl rfl rfl ?_
        | refine o_eqbf rfl rfl rfl ?_
        | refine o_cmpt rfl rfl rfl ?_
        | refine o_cmpf rfl rfl rfl ?_)
      refine u_out ?_
      repeat (first
        | refine z_seq ?_
        | refine z_region rfl ?_
        | refine o_nil ?_
        | refine u_seq ?_
        | refine u_blk ?_
        | refine z_block ?_
        | refine z_skip ?_
        | refine z_ct rfl ?_
        | refine z_cf rfl ?_
        | refine z_exit ?_
        | refine z_ret ?_
        | refine u_exit ?_
        | refine u_exit_seq ?_
        | refine u_exit_other rfl ?_
        | refine u_ret_seq ?_
        | refine u_ret_blk ?_
        | refine o_gy rfl ?_
        | refine o_gn rfl rfl ?_
        | refine o_gt rfl ?_
        | refine o_mov rfl ?_
        | refine o_load rfl rfl ?_
        | refine o_loadn rfl rfl rfl rfl ?_
        | refine o_store rfl rfl rfl rfl rfl rfl rfl ?_
        | refine o_faddrm rfl ?_
        | refine o_faddrv rfl rfl rfl ?_
        | refine o_idxarrm rfl rfl rfl ?_
        | refine o_alloc ?_
        | refine o_pickt rfl rfl ?_
        | refine o_pickf rfl rfl ?_
        | refine o_un rfl rfl ?_
        | refine o_len rfl rfl ?_
        | refine o_build rfl rfl ?_
        | refine o_bslice rfl rfl ?_
        | refine o_box rfl rfl ?_
        | refine o_minmax2 rfl rfl rfl ?_
        | refine o_field rfl rfl ?_
        | refine o_append rfl rfl rfl rfl ?_
        | refine o_extract rfl rfl ?_
        | refine o_lenc ?_
        | refine z_drawn0 env0_ok rfl rfl rfl ?_
        | refine o_bin (op := .add) rfl rfl rfl ?_
        | refine o_bin (op := .sub) rfl rfl rfl ?_
        | refine o_eqbt rfl rfl rfl ?_
        | refine o_eqbf rfl rfl rfl ?_
        | refine o_cmpt rfl rfl rfl ?_
        | refine o_cmpf rfl rfl rfl ?_)
      refine u_end ⟨.inr rfl, _, rfl, ?_⟩
      rw [good, h]
      rfl
    | some init p q h =>
      repeat (first
        | refine z_seq ?_
        | refine z_region rfl ?_
        | refine o_nil ?_
        | refine u_seq ?_
        | refine u_blk ?_
        | refine z_block ?_
        | refine z_skip ?_
        | refine z_ct rfl ?_
        | refine z_cf rfl ?_
        | refine z_exit ?_
        | refine z_ret ?_
        | refine u_exit ?_
        | refine u_exit_seq ?_
        | refine u_exit_other rfl ?_
        | refine u_ret_seq ?_
        | refine u_ret_blk ?_
        | refine o_gy rfl ?_
        | refine o_gn rfl rfl ?_
        | refine o_gt rfl ?_
        | refine o_mov rfl ?_
        | refine o_load rfl rfl ?_
        | refine o_loadn rfl rfl rfl rfl ?_
        | refine o_store rfl rfl rfl rfl rfl rfl rfl ?_
        | refine o_faddrm rfl ?_
        | refine o_faddrv rfl rfl rfl ?_
        | refine o_idxarrm rfl rfl rfl ?_
        | refine o_alloc ?_
        | refine o_pickt rfl rfl ?_
        | refine o_pickf rfl rfl ?_
        | refine o_un rfl rfl ?_
        | refine o_len rfl rfl ?_
        | refine o_build rfl rfl ?_
        | refine o_bslice rfl rfl ?_
        | refine o_box rfl rfl ?_
        | refine o_minmax2 rfl rfl rfl ?_
        | refine o_field rfl rfl ?_
        | refine o_append rfl rfl rfl rfl ?_
        | refine o_extract rfl rfl ?_
        | refine o_lenc ?_
        | refine z_drawn0 env0_ok rfl rfl rfl ?_
        | refine o_bin (op := .add) rfl rfl rfl ?_
        | refine o_bin (op := .sub) rfl rfl rfl ?_
        | refine o_eqbt rfl rfl rfl ?_
        | refine o_eqbf rfl rfl rfl ?_
        | refine o_cmpt rfl rfl rfl ?_
        | refine o_cmpf rfl rfl rfl ?_)
      refine o_cmp rfl rfl rfl (fun h => absurd hc (by rw [h]; simp)) fun _ => ?_
      repeat (first
        | refine z_seq ?_
        | refine z_region rfl ?_
        | refine o_nil ?_
        | refine u_seq ?_
        | refine u_blk ?_
        | refine z_block ?_
        | refine z_skip ?_
        | refine z_ct rfl ?_
        | refine z_cf rfl ?_
        | refine z_exit ?_
        | refine z_ret ?_
        | refine u_exit ?_
        | refine u_exit_seq ?_
        | refine u_exit_other rfl ?_
        | refine u_ret_seq ?_
        | refine u_ret_blk ?_
        | refine o_gy rfl ?_
        | refine o_gn rfl rfl ?_
        | refine o_gt rfl ?_
        | refine o_mov rfl ?_
        | refine o_load rfl rfl ?_
        | refine o_loadn rfl rfl rfl rfl ?_
        | refine o_store rfl rfl rfl rfl rfl rfl rfl ?_
        | refine o_faddrm rfl ?_
        | refine o_faddrv rfl rfl rfl ?_
        | refine o_idxarrm rfl rfl rfl ?_
        | refine o_alloc ?_
        | refine o_pickt rfl rfl ?_
        | refine o_pickf rfl rfl ?_
        | refine o_un rfl rfl ?_
        | refine o_len rfl rfl ?_
        | refine o_build rfl rfl ?_
        | refine o_bslice rfl rfl ?_
        | refine o_box rfl rfl ?_
        | refine o_minmax2 rfl rfl rfl ?_
        | refine o_field rfl rfl ?_
        | refine o_append rfl rfl rfl rfl ?_
        | refine o_extract rfl rfl ?_
        | refine o_lenc ?_
        | refine z_drawn0 env0_ok rfl rfl rfl ?_
        | refine o_bin (op := .add) rfl rfl rfl ?_
        | refine o_bin (op := .sub) rfl rfl rfl ?_
        | refine o_eqbt rfl rfl rfl ?_
        | refine o_eqbf rfl rfl rfl ?_
        | refine o_cmpt rfl rfl rfl ?_
        | refine o_cmpf rfl rfl rfl ?_)
      refine u_out ?_
      repeat (first
        | refine z_seq ?_
        | refine z_region rfl ?_
        | refine o_nil ?_
        | refine u_seq ?_
        | refine u_blk ?_
        | refine z_block ?_
        | refine z_skip ?_
        | refine z_ct rfl ?_
        | refine z_cf rfl ?_
        | refine z_exit ?_
        | refine z_ret ?_
        | refine u_exit ?_
        | refine u_exit_seq ?_
        | refine u_exit_other rfl ?_
        | refine u_ret_seq ?_
        | refine u_ret_blk ?_
        | refine o_gy rfl ?_
        | refine o_gn rfl rfl ?_
        | refine o_gt rfl ?_
        | refine o_mov rfl ?_
        | refine o_load rfl rfl ?_
        | refine o_loadn rfl rfl rfl rfl ?_
        | refine o_store rfl rfl rfl rfl rfl rfl rfl ?_
        | refine o_faddrm rfl ?_
        | refine o_faddrv rfl rfl rfl ?_
        | refine o_idxarrm rfl rfl rfl ?_
        | refine o_alloc ?_
        | refine o_pickt rfl rfl ?_
        | refine o_pickf rfl rfl ?_
        | refine o_un rfl rfl ?_
        | refine o_len rfl rfl ?_
        | refine o_build rfl rfl ?_
        | refine o_bslice rfl rfl ?_
        | refine o_box rfl rfl ?_
        | refine o_minmax2 rfl rfl rfl ?_
        | refine o_field rfl rfl ?_
        | refine o_append rfl rfl rfl rfl ?_
        | refine o_extract rfl rfl ?_
        | refine o_lenc ?_
        | refine z_drawn0 env0_ok rfl rfl rfl ?_
        | refine o_bin (op := .add) rfl rfl rfl ?_
        | refine o_bin (op := .sub) rfl rfl rfl ?_
        | refine o_eqbt rfl rfl rfl ?_
        | refine o_eqbf rfl rfl rfl ?_
        | refine o_cmpt rfl rfl rfl ?_
        | refine o_cmpf rfl rfl rfl ?_)
      refine u_end ⟨.inr rfl, _, rfl, ?_⟩
      rw [good, h]
      exact congrArg (fun x => AV.tup [x, .int .i64 0]) (view_mem init p q rfl)

end Go.Proofs.Ytofkihmckookjaa
