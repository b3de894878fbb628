/-
  SPANS OF THE TWO-HAND SIGNAL: the searches of presses and releases.
-/
import Derived.Test.YtofkihmckookjaaH5
namespace Go.Proofs.Ytofkihmckookjaa
open Go Go.Am

def pressAt (p : Int) (e : Ev) : Bool := e.2.2 && decide (e.1 = p)
def releaseAt (q : Int) (e : Ev) : Bool := !e.2.2 && decide (e.1 = q)

-- pneumatic/pneumaticlaw49.GuardSpans$1
def ic22 : IC := .seq (.region [⟨(some 2), .box (.t 0), none⟩,
    ⟨(some 3), .mov (.c (.bool false)), none⟩] none)
  (.seq (.region [⟨(some 4), .faddr 2 (.t 2), none⟩,
    ⟨(some 5), .load none (.t 4), none⟩,
    ⟨(some 6), .mov (.t 5), none⟩,
    ⟨(some 7), .faddr 0 (.t 2), some (6, true)⟩,
    ⟨(some 8), .load none (.t 7), some (6, true)⟩,
    ⟨(some 9), .idxarr 2 1 (.t 1) (.c (.int .i64 0)), some (6, true)⟩,
    ⟨(some 10), .load none (.t 9), some (6, true)⟩,
    ⟨(some 11), .bin .eql (.t 8) (.t 10), some (6, true)⟩,
    ⟨(some 12), .pick (.t 6) (.t 11) (.c (.bool false)), none⟩,
    ⟨(some 3), .mov (.t 12), none⟩] none)
  (.ret))
theorem fn22 : env0.fn 22 = some ⟨13, ic22, [.t 3]⟩ := by kernel_rfl


theorem press22 (e : Ev) (p q : Int) : PF Try.prog 22 [.agg (rowE e), .vptr (rowP (p, q))] (.bool (pressAt p e)) := by
  refine PF_of_Z env0_ok fn22 [(0, .agg (rowE e)), (1, .vptr (rowP (p, q)))] (by show 2 ≤ 13; decide) rfl fun w0 N0 => ?_
  obtain ⟨at_, r, d⟩ := e
  unfold ic22
  cases d
  · repeat (first
      | refine z_seq ?_
      | refine z_region rfl ?_
      | refine o_nil ?_
      | refine u_seq ?_
      | refine u_blk ?_
      | refine z_block ?_
      | refine z_skip ?_
      | refine z_ct rfl ?_
      | refine z_cf rfl ?_
      | refine z_exit ?_
      | refine z_ret ?_
      | refine u_exit ?_
      | refine u_exit_seq ?_
      | refine u_exit_other rfl ?_
      | refine u_ret_seq ?_
      | refine u_ret_blk ?_
      | refine o_gy rfl ?_
      | refine o_gn rfl rfl ?_
      | refine o_gt rfl ?_
      | refine o_mov rfl ?_
      | refine o_load rfl rfl ?_
      | refine o_loadn rfl rfl rfl rfl ?_
      | refine o_store rfl rfl rfl rfl rfl rfl rfl ?_
      | refine o_faddrm rfl ?_
      | refine o_faddrv rfl rfl rfl ?_
      | refine o_idxarrm rfl rfl rfl ?_
      | refine o_idxarrv rfl rfl rfl rfl ?_
      | refine o_alloc ?_
      | refine o_pickt rfl rfl ?_
      | refine o_pickf rfl rfl ?_
      | refine o_un rfl rfl ?_
      | refine o_len rfl rfl ?_
      | refine o_build rfl rfl ?_
      | refine o_bslice rfl rfl ?_
      | refine o_box rfl rfl ?_
      | refine o_minmax2 rfl rfl rfl ?_
      | refine o_field rfl rfl ?_
      | refine o_append rfl rfl rfl rfl ?_
      | refine o_extract rfl rfl ?_
      | refine o_lenc ?_
      | refine z_drawn0 env0_ok rfl rfl rfl ?_
      | refine o_bin (op := .add) rfl rfl rfl ?_
      | refine o_bin (op := .sub) rfl rfl rfl ?_
      | refine o_eqbt rfl rfl rfl ?_
      | refine o_eqbf rfl rfl rfl ?_
      | refine o_cmpt rfl rfl rfl ?_
      | refine o_cmpf rfl rfl rfl ?_)
    exact u_end ⟨.inr rfl, _, rfl, rfl⟩
  · repeat (first
      | refine z_seq ?_
      | refine z_region rfl ?_
      | refine o_nil ?_
      | refine u_seq ?_
      | refine u_blk ?_
      | refine z_block ?_
      | refine z_skip ?_
      | refine z_ct rfl ?_
      | refine z_cf rfl ?_
      | refine z_exit ?_
      | refine z_ret ?_
      | refine u_exit ?_
      | refine u_exit_seq ?_
      | refine u_exit_other rfl ?_
      | refine u_ret_seq ?_
      | refine u_ret_blk ?_
      | refine o_gy rfl ?_
      | refine o_gn rfl rfl ?_
      | refine o_gt rfl ?_
      | refine o_mov rfl ?_
      | refine o_load rfl rfl ?_
      | refine o_loadn rfl rfl rfl rfl ?_
      | refine o_store rfl rfl rfl rfl rfl rfl rfl ?_
      | refine o_faddrm rfl ?_
      | refine o_faddrv rfl rfl rfl ?_
      | refine o_idxarrm rfl rfl rfl ?_
      | refine o_idxarrv rfl rfl rfl rfl ?_
      | refine o_alloc ?_
      | refine o_pickt rfl rfl ?_
      | refine o_pickf rfl rfl ?_
      | refine o_un rfl rfl ?_
      | refine o_len rfl rfl ?_
      | refine o_build rfl rfl ?_
      | refine o_bslice rfl rfl ?_
      | refine o_box rfl rfl ?_
      | refine o_minmax2 rfl rfl rfl ?_
      | refine o_field rfl rfl ?_
      | refine o_append rfl rfl rfl rfl ?_
      | refine o_extract rfl rfl ?_
      | refine o_lenc ?_
      | refine z_drawn0 env0_ok rfl rfl rfl ?_
      | refine o_bin (op := .add) rfl rfl rfl ?_
      | refine o_bin (op := .sub) rfl rfl rfl ?_
      | refine o_eqbt rfl rfl rfl ?_
      | refine o_eqbf rfl rfl rfl ?_
      | refine o_cmpt rfl rfl rfl ?_
      | refine o_cmpf rfl rfl rfl ?_
      | refine o_idxarrv rfl rfl rfl rfl ?_)
    refine o_cmp rfl rfl rfl (fun h => ?_) fun h => ?_
    · repeat (first
        | refine z_seq ?_
        | refine z_region rfl ?_
        | refine o_nil ?_
        | refine u_seq ?_
        | refine u_blk ?_
        | refine z_block ?_
        | refine z_skip ?_
        | refine z_ct rfl ?_
        | refine z_cf rfl ?_
        | refine z_exit ?_
        | refine z_ret ?_
        | refine u_exit ?_
        | refine u_exit_seq ?_
        | refine u_exit_other rfl ?_
        | refine u_ret_seq ?_
        | refine u_ret_blk ?_
        | refine o_gy rfl ?_
        | refine o_gn rfl rfl ?_
        | refine o_gt rfl ?_
        | refine o_mov rfl ?_
        | refine o_load rfl rfl ?_
        | refine o_loadn rfl rfl rfl rfl ?_
        | refine o_store rfl rfl rfl rfl rfl rfl rfl ?_
        | refine o_faddrm rfl ?_
        | refine o_faddrv rfl rfl rfl ?_
        | refine o_idxarrm rfl rfl rfl ?_
        | refine o_idxarrv rfl rfl rfl rfl ?_
        | refine o_alloc ?_
        | refine o_pickt rfl rfl ?_
        | refine o_pickf rfl rfl ?_
        | refine o_un rfl rfl ?_
        | refine o_len rfl rfl ?_
        | refine o_build rfl rfl ?_
        | refine o_bslice rfl rfl ?_
        | refine o_box rfl rfl ?_
        | refine o_minmax2 rfl rfl rfl ?_
        | refine o_field rfl rfl ?_
        | refine o_append rfl rfl rfl rfl ?_
        | refine o_extract rfl rfl ?_
        | refine o_lenc ?_
        | refine z_drawn0 env0_ok rfl rfl rfl ?_
        | refine o_bin (op := .add) rfl rfl rfl ?_
        | refine o_bin (op := .sub) rfl rfl rfl ?_
        | refine o_eqbt rfl rfl rfl ?_
        | refine o_eqbf rfl rfl rfl ?_
        | refine o_cmpt rfl rfl rfl ?_
        | refine o_cmpf rfl rfl rfl ?_)
      refine u_end ⟨.inr rfl, _, rfl, ?_⟩
      rw [show pressAt p (at_, r, true) = true from h]; rfl
    · repeat (first
        | refine z_seq ?_
        | refine z_region rfl ?_
        | refine o_nil ?_
        | refine u_seq ?_
        | refine u_blk ?_
        | refine z_block ?_
        | refine z_skip ?_
        | refine z_ct rfl ?_
        | refine z_cf rfl ?_
        | refine z_exit ?_
        | refine z_ret ?_
        | refine u_exit ?_
        | refine u_exit_seq ?_
        | refine u_exit_other rfl ?_
        | refine u_ret_seq ?_
        | refine u_ret_blk ?_
        | refine o_gy rfl ?_
        | refine o_gn rfl rfl ?_
        | refine o_gt rfl ?_
        | refine o_mov rfl ?_
        | refine o_load rfl rfl ?_
        | refine o_loadn rfl rfl rfl rfl ?_
        | refine o_store rfl rfl rfl rfl rfl rfl rfl ?_
        | refine o_faddrm rfl ?_
        | refine o_faddrv rfl rfl rfl ?_
        | refine o_idxarrm rfl rfl rfl ?_
        | refine o_idxarrv rfl rfl rfl rfl ?_
        | refine o_alloc ?_
        | refine o_pickt rfl rfl ?_
        | refine o_pickf rfl rfl ?_
        | refine o_un rfl rfl ?_
        | refine o_len rfl rfl ?_
        | refine o_build rfl rfl ?_
        | refine o_bslice rfl rfl ?_
        | refine o_box rfl rfl ?_
        | refine o_minmax2 rfl rfl rfl ?_
        | refine o_field rfl rfl ?_
        | refine o_append rfl rfl rfl rfl ?_
        | refine o_extract rfl rfl ?_
        | refine o_lenc ?_
        | refine z_drawn0 env0_ok rfl rfl rfl ?_
        | refine o_bin (op := .add) rfl rfl rfl ?_
        | refine o_bin (op := .sub) rfl rfl rfl ?_
        | refine o_eqbt rfl rfl rfl ?_
        | refine o_eqbf rfl rfl rfl ?_
        | refine o_cmpt rfl rfl rfl ?_
        | refine o_cmpf rfl rfl rfl ?_)
      refine u_end ⟨.inr rfl, _, rfl, ?_⟩
      rw [show pressAt p (at_, r, true) = false from h]; rfl

-- pneumatic/pneumaticlaw49.GuardSpans$2
def ic23 : IC := .seq (.region [⟨(some 2), .box (.t 0), none⟩,
    ⟨(some 3), .mov (.c (.bool false)), none⟩] none)
  (.seq (.region [⟨(some 4), .faddr 2 (.t 2), none⟩,
    ⟨(some 5), .load none (.t 4), none⟩,
    ⟨(some 6), .un .not (.t 5), none⟩,
    ⟨(some 7), .mov (.t 6), none⟩,
    ⟨(some 8), .faddr 0 (.t 2), some (7, true)⟩,
    ⟨(some 9), .load none (.t 8), some (7, true)⟩,
    ⟨(some 10), .idxarr 2 1 (.t 1) (.c (.int .i64 1)), some (7, true)⟩,
    ⟨(some 11), .load none (.t 10), some (7, true)⟩,
    ⟨(some 12), .bin .eql (.t 9) (.t 11), some (7, true)⟩,
    ⟨(some 13), .pick (.t 7) (.t 12) (.c (.bool false)), none⟩,
    ⟨(some 3), .mov (.t 13), none⟩] none)
  (.ret))
theorem fn23 : env0.fn 23 = some ⟨14, ic23, [.t 3]⟩ := by kernel_rfl


theorem release23 (e : Ev) (p q : Int) : PF Try.prog 23 [.agg (rowE e), .vptr (rowP (p, q))] (.bool (releaseAt q e)) := by
  refine PF_of_Z env0_ok fn23 [(0, .agg (rowE e)), (1, .vptr (rowP (p, q)))] (by show 2 ≤ 14; decide) rfl fun w0 N0 => ?_
  obtain ⟨at_, r, d⟩ := e
  unfold ic23
  cases d
  · repeat (first
      | refine z_seq ?_
      | refine z_region rfl ?_
      | refine o_nil ?_
      | refine u_seq ?_
      | refine u_blk ?_
      | refine z_block ?_
      | refine z_skip ?_
      | refine z_ct rfl ?_
      | refine z_cf rfl ?_
      | refine z_exit ?_
      | refine z_ret ?_
      | refine u_exit ?_
      | refine u_exit_seq ?_
      | refine u_exit_other rfl ?_
      | refine u_ret_seq ?_
      | refine u_ret_blk ?_
      | refine o_gy rfl ?_
      | refine o_gn rfl rfl ?_
      | refine o_gt rfl ?_
      | refine o_mov rfl ?_
      | refine o_load rfl rfl ?_
      | refine o_loadn rfl rfl rfl rfl ?_
      | refine o_store rfl rfl rfl rfl rfl rfl rfl ?_
      | refine o_faddrm rfl ?_
      | refine o_faddrv rfl rfl rfl ?_
      | refine o_idxarrm rfl rfl rfl ?_
      | refine o_idxarrv rfl rfl rfl rfl ?_
      | refine o_alloc ?_
      | refine o_pickt rfl rfl ?_
      | refine o_pickf rfl rfl ?_
      | refine o_un rfl rfl ?_
      | refine o_len rfl rfl ?_
      | refine o_build rfl rfl ?_
      | refine o_bslice rfl rfl ?_
      | refine o_box rfl rfl ?_
      | refine o_minmax2 rfl rfl rfl ?_
      | refine o_field rfl rfl ?_
      | refine o_append rfl rfl rfl rfl ?_
      | refine o_extract rfl rfl ?_
      | refine o_lenc ?_
      | refine z_drawn0 env0_ok rfl rfl rfl ?_
      | refine o_bin (op := .add) rfl rfl rfl ?_
      | refine o_bin (op := .sub) rfl rfl rfl ?_
      | refine o_eqbt rfl rfl rfl ?_
      | refine o_eqbf rfl rfl rfl ?_
      | refine o_cmpt rfl rfl rfl ?_
      | refine o_cmpf rfl rfl rfl ?_
      | refine o_idxarrv rfl rfl rfl rfl ?_)
    refine o_cmp rfl rfl rfl (fun h => ?_) fun h => ?_
    · repeat (first
        | refine z_seq ?_
        | refine z_region rfl ?_
        | refine o_nil ?_
        | refine u_seq ?_
        | refine u_blk ?_
        | refine z_block ?_
        | refine z_skip ?_
        | refine z_ct rfl ?_
        | refine z_cf rfl ?_
        | refine z_exit ?_
        | refine z_ret ?_
        | refine u_exit ?_
        | refine u_exit_seq ?_
        | refine u_exit_other rfl ?_
        | refine u_ret_seq ?_
        | refine u_ret_blk ?_
        | refine o_gy rfl ?_
        | refine o_gn rfl rfl ?_
        | refine o_gt rfl ?_
        | refine o_mov rfl ?_
        | refine o_load rfl rfl ?_
        | refine o_loadn rfl rfl rfl rfl ?_
        | refine o_store rfl rfl rfl rfl rfl rfl rfl ?_
        | refine o_faddrm rfl ?_
        | refine o_faddrv rfl rfl rfl ?_
        | refine o_idxarrm rfl rfl rfl ?_
        | refine o_idxarrv rfl rfl rfl rfl ?_
        | refine o_alloc ?_
        | refine o_pickt rfl rfl ?_
        | refine o_pickf rfl rfl ?_
        | refine o_un rfl rfl ?_
        | refine o_len rfl rfl ?_
        | refine o_build rfl rfl ?_
        | refine o_bslice rfl rfl ?_
        | refine o_box rfl rfl ?_
        | refine o_minmax2 rfl rfl rfl ?_
        | refine o_field rfl rfl ?_
        | refine o_append rfl rfl rfl rfl ?_
        | refine o_extract rfl rfl ?_
        | refine o_lenc ?_
        | refine z_drawn0 env0_ok rfl rfl rfl ?_
        | refine o_bin (op := .add) rfl rfl rfl ?_
        | refine o_bin (op := .sub) rfl rfl rfl ?_
        | refine o_eqbt rfl rfl rfl ?_
        | refine o_eqbf rfl rfl rfl ?_
        | refine o_cmpt rfl rfl rfl ?_
        | refine o_cmpf rfl rfl rfl ?_)
      refine u_end ⟨.inr rfl, _, rfl, ?_⟩
      rw [show releaseAt q (at_, r, false) = true from h]; rfl
    · repeat (first
        | refine z_seq ?_
        | refine z_region rfl ?_
        | refine o_nil ?_
        | refine u_seq ?_
        | refine u_blk ?_
        | refine z_block ?_
        | refine z_skip ?_
        | refine z_ct rfl ?_
        | refine z_cf rfl ?_
        | refine z_exit ?_
        | refine z_ret ?_
        | refine u_exit ?_
        | refine u_exit_seq ?_
        | refine u_exit_other rfl ?_
        | refine u_ret_seq ?_
        | refine u_ret_blk ?_
        | refine o_gy rfl ?_
        | refine o_gn rfl rfl ?_
        | refine o_gt rfl ?_
        | refine o_mov rfl ?_
        | refine o_load rfl rfl ?_
        | refine o_loadn rfl rfl rfl rfl ?_
        | refine o_store rfl rfl rfl rfl rfl rfl rfl ?_
        | refine o_faddrm rfl ?_
        | refine o_faddrv rfl rfl rfl ?_
        | refine o_idxarrm rfl rfl rfl ?_
        | refine o_idxarrv rfl rfl rfl rfl ?_
        | refine o_alloc ?_
        | refine o_pickt rfl rfl ?_
        | refine o_pickf rfl rfl ?_
        | refine o_un rfl rfl ?_
        | refine o_len rfl rfl ?_
        | refine o_build rfl rfl ?_
        | refine o_bslice rfl rfl ?_
        | refine o_box rfl rfl ?_
        | refine o_minmax2 rfl rfl rfl ?_
        | refine o_field rfl rfl ?_
        | refine o_append rfl rfl rfl rfl ?_
        | refine o_extract rfl rfl ?_
        | refine o_lenc ?_
        | refine z_drawn0 env0_ok rfl rfl rfl ?_
        | refine o_bin (op := .add) rfl rfl rfl ?_
        | refine o_bin (op := .sub) rfl rfl rfl ?_
        | refine o_eqbt rfl rfl rfl ?_
        | refine o_eqbf rfl rfl rfl ?_
        | refine o_cmpt rfl rfl rfl ?_
        | refine o_cmpf rfl rfl rfl ?_)
      refine u_end ⟨.inr rfl, _, rfl, ?_⟩
      rw [show releaseAt q (at_, r, false) = false from h]; rfl
  · repeat (first
      | refine z_seq ?_
      | refine z_region rfl ?_
      | refine o_nil ?_
      | refine u_seq ?_
      | refine u_blk ?_
      | refine z_block ?_
      | refine z_skip ?_
      | refine z_ct rfl ?_
      | refine z_cf rfl ?_
      | refine z_exit ?_
      | refine z_ret ?_
      | refine u_exit ?_
      | refine u_exit_seq ?_
      | refine u_exit_other rfl ?_
      | refine u_ret_seq ?_
      | refine u_ret_blk ?_
      | refine o_gy rfl ?_
      | refine o_gn rfl rfl ?_
      | refine o_gt rfl ?_
      | refine o_mov rfl ?_
      | refine o_load rfl rfl ?_
      | refine o_loadn rfl rfl rfl rfl ?_
      | refine o_store rfl rfl rfl rfl rfl rfl rfl ?_
      | refine o_faddrm rfl ?_
      | refine o_faddrv rfl rfl rfl ?_
      | refine o_idxarrm rfl rfl rfl ?_
      | refine o_idxarrv rfl rfl rfl rfl ?_
      | refine o_alloc ?_
      | refine o_pickt rfl rfl ?_
      | refine o_pickf rfl rfl ?_
      | refine o_un rfl rfl ?_
      | refine o_len rfl rfl ?_
      | refine o_build rfl rfl ?_
      | refine o_bslice rfl rfl ?_
      | refine o_box rfl rfl ?_
      | refine o_minmax2 rfl rfl rfl ?_
      | refine o_field rfl rfl ?_
      | refine o_append rfl rfl rfl rfl ?_
      | refine o_extract rfl rfl ?_
      | refine o_lenc ?_
      | refine z_drawn0 env0_ok rfl rfl rfl ?_
      | refine o_bin (op := .add) rfl rfl rfl ?_
      | refine o_bin (op := .sub) rfl rfl rfl ?_
      | refine o_eqbt rfl rfl rfl ?_
      | refine o_eqbf rfl rfl rfl ?_
      | refine o_cmpt rfl rfl rfl ?_
      | refine o_cmpf rfl rfl rfl ?_)
    exact u_end ⟨.inr rfl, _, rfl, rfl⟩

def body57 : IC := .seq (.region [⟨(some 9), .bin .lss (.t 8) (.t 7), none⟩] none)
  (.seq (.cond (.t 9) (.skip)
  (.exit 0))
  (.seq (.block 1 (.seq (.region [⟨(some 10), .mov (.t 8), none⟩,
    ⟨(some 5), .mov (.t 10), none⟩] none)
  (.seq (.region [⟨(some 11), .mov (.t 1), none⟩,
    ⟨(some 12), .mov (.t 0), none⟩,
    ⟨(some 13), .mov (.t 5), none⟩,
    ⟨(some 14), .idxs 3 (.t 12) (.t 13), none⟩,
    ⟨(some 15), .load (some 3) (.t 14), none⟩,
    ⟨(some 16), .call (.t 11) [(.t 15)], none⟩] none)
  (.cond (.t 16) (.seq (.region [⟨(some 17), .mov (.t 5), none⟩,
    ⟨(some 4), .mov (.t 17), none⟩] none)
  (.ret))
  (.skip)))))
  (.region [⟨(some 18), .bin .add (.t 8) (.c (.int .i64 1)), none⟩,
    ⟨(some 8), .mov (.t 18), none⟩] none)))

-- slices.IndexFunc[[]pneumatic/guard.Hand,pneumatic/guard.Hand]
def ic57 : IC := .seq (.region [⟨(some 4), .mov (.c (.int .i64 0)), none⟩] none)
  (.seq (.seq (.region [⟨(some 6), .mov (.t 0), none⟩,
    ⟨(some 7), .len false (.t 6), none⟩,
    ⟨(some 8), .mov (.c (.int .i64 0)), none⟩] none)
  (.block 0 (.loop body57)))
  (.seq (.region [⟨(some 4), .mov (.c (.int .i64 (-1))), none⟩] none)
  (.ret)))
theorem fn57 : env0.fn 57 = some ⟨19, ic57, [.t 4]⟩ := by kernel_rfl


def findI (g : Ev → Bool) : List Ev → Int → Int
  | [], _ => -1
  | e :: t, i => if g e = true then i else findI g t (i + 1)

set_option maxHeartbeats 1000000 in
theorem index57 (l : List Ev) (g : Ev → Bool) (F : FuncId) (cs : List AV) (hl : l.length ≤ 600) (hg : ∀ e, PF Try.prog F [.agg (rowE e), .vptr cs] (.bool (g e))) : PF Try.prog 57 [.vs (l.map rowE), .fn F [] [.vptr cs]] (.int .i64 (findI g l 0)) := by
  have hlen : (l.map rowE).length = l.length := List.length_map ..
  refine PF_of_Z env0_ok fn57 [(0, .vs (l.map rowE)), (1, .fn F [] [.vptr cs])] (by show 2 ≤ 19; decide) rfl fun w0 N0 => ?_
  unfold ic57
  repeat (first
    | refine z_seq ?_
    | refine z_region rfl ?_
    | refine o_nil ?_
    | refine u_seq ?_
    | refine u_blk ?_
    | refine z_block ?_
    | refine z_skip ?_
    | refine z_ct rfl ?_
    | refine z_cf rfl ?_
    | refine z_exit ?_
    | refine z_ret ?_
    | refine u_exit ?_
    | refine u_exit_seq ?_
    | refine u_exit_other rfl ?_
    | refine u_ret_seq ?_
    | refine u_ret_blk ?_
    | refine o_gy rfl ?_
    | refine o_gn rfl rfl ?_
    | refine o_gt rfl ?_
    | refine o_mov rfl ?_
    | refine o_load rfl rfl ?_
    | refine o_loadn rfl rfl rfl rfl ?_
    | refine o_store rfl rfl rfl rfl rfl rfl rfl ?_
    | refine o_faddrm rfl ?_
    | refine o_faddrv rfl rfl rfl ?_
    | refine o_idxarrm rfl rfl rfl ?_
    | refine o_idxarrv rfl rfl rfl rfl ?_
    | refine o_alloc ?_
    | refine o_pickt rfl rfl ?_
    | refine o_pickf rfl rfl ?_
    | refine o_un rfl rfl ?_
    | refine o_len rfl rfl ?_
    | refine o_build rfl rfl ?_
    | refine o_bslice rfl rfl ?_
    | refine o_box rfl rfl ?_
    | refine o_minmax2 rfl rfl rfl ?_
    | refine o_field rfl rfl ?_
    | refine o_append rfl rfl rfl rfl ?_
    | refine o_extract rfl rfl ?_
    | refine o_lenc ?_
    | refine z_drawn0 env0_ok rfl rfl rfl ?_
    | refine o_bin (op := .add) rfl rfl rfl ?_
    | refine o_bin (op := .sub) rfl rfl rfl ?_
    | refine o_eqbt rfl rfl rfl ?_
    | refine o_eqbf rfl rfl rfl ?_
    | refine o_cmpt rfl rfl rfl ?_
    | refine o_cmpf rfl rfl rfl ?_)
  refine z_loop (fun m S => ∃ i, m = l.length - i ∧ i ≤ l.length ∧ findI g l 0 = findI g (l.drop i) i ∧
     S = st 19 [(0, .vs (l.map rowE)), (1, .fn F [] [.vptr cs]), (6, .vs (l.map rowE)), (7, .int .i64 (l.map rowE).length), (8, .int .i64 (i : Nat))] [] 0 1) l.length
    (sub_ren0 (.cons rfl (.same rfl) (.cons rfl (.same rfl) (.cons rfl (.same rfl) (.cons rfl (.same rfl) (.cons rfl (.same rfl) .nil)))))) ⟨0, rfl, Nat.zero_le _, rfl, rfl⟩ ?_
  rintro m S ⟨i, rfl, hi, hf, rfl⟩
  unfold body57
  repeat (first
    | refine z_seq ?_
    | refine z_region rfl ?_
    | refine o_nil ?_
    | refine u_seq ?_
    | refine u_blk ?_
    | refine z_block ?_
    | refine z_skip ?_
    | refine z_ct rfl ?_
    | refine z_cf rfl ?_
    | refine z_exit ?_
    | refine z_ret ?_
    | refine u_exit ?_
    | refine u_exit_seq ?_
    | refine u_exit_other rfl ?_
    | refine u_ret_seq ?_
    | refine u_ret_blk ?_
    | refine o_gy rfl ?_
    | refine o_gn rfl rfl ?_
    | refine o_gt rfl ?_
    | refine o_mov rfl ?_
    | refine o_load rfl rfl ?_
    | refine o_loadn rfl rfl rfl rfl ?_
    | refine o_store rfl rfl rfl rfl rfl rfl rfl ?_
    | refine o_faddrm rfl ?_
    | refine o_faddrv rfl rfl rfl ?_
    | refine o_idxarrm rfl rfl rfl ?_
    | refine o_idxarrv rfl rfl rfl rfl ?_
    | refine o_alloc ?_
    | refine o_pickt rfl rfl ?_
    | refine o_pickf rfl rfl ?_
    | refine o_un rfl rfl ?_
    | refine o_len rfl rfl ?_
    | refine o_build rfl rfl ?_
    | refine o_bslice rfl rfl ?_
    | refine o_box rfl rfl ?_
    | refine o_minmax2 rfl rfl rfl ?_
    | refine o_field rfl rfl ?_
    | refine o_append rfl rfl rfl rfl ?_
    | refine o_extract rfl rfl ?_
    | refine o_lenc ?_
    | refine z_drawn0 env0_ok rfl rfl rfl ?_
    | refine o_bin (op := .add) rfl rfl rfl ?_
    | refine o_bin (op := .sub) rfl rfl rfl ?_
    | refine o_eqbt rfl rfl rfl ?_
    | refine o_eqbf rfl rfl rfl ?_
    | refine o_cmpt rfl rfl rfl ?_
    | refine o_cmpf rfl rfl rfl ?_)
  refine o_cmp rfl rfl rfl (fun h3 => ?_) fun h3 => ?_
  · have hlt : i < l.length := by
      have := of_decide_eq_true h3
      omega
    have ge : (l.map rowE)[((i : Nat) : Int).toNat]? = some (rowE l[i]) := by simp [hlt]
    have hd : l.drop i = l[i] :: l.drop (i + 1) := List.drop_eq_getElem_cons hlt
    rw [hd] at hf
    repeat (first
      | refine z_seq ?_
      | refine z_region rfl ?_
      | refine o_nil ?_
      | refine u_seq ?_
      | refine u_blk ?_
      | refine z_block ?_
      | refine z_skip ?_
      | refine z_ct rfl ?_
      | refine z_cf rfl ?_
      | refine z_exit ?_
      | refine z_ret ?_
      | refine u_exit ?_
      | refine u_exit_seq ?_
      | refine u_exit_other rfl ?_
      | refine u_ret_seq ?_
      | refine u_ret_blk ?_
      | refine o_gy rfl ?_
      | refine o_gn rfl rfl ?_
      | refine o_gt rfl ?_
      | refine o_mov rfl ?_
      | refine o_load rfl rfl ?_
      | refine o_loadn rfl rfl rfl rfl ?_
      | refine o_store rfl rfl rfl rfl rfl rfl rfl ?_
      | refine o_faddrm rfl ?_
      | refine o_faddrv rfl rfl rfl ?_
      | refine o_idxarrm rfl rfl rfl ?_
      | refine o_idxarrv rfl rfl rfl rfl ?_
      | refine o_alloc ?_
      | refine o_pickt rfl rfl ?_
      | refine o_pickf rfl rfl ?_
      | refine o_un rfl rfl ?_
      | refine o_len rfl rfl ?_
      | refine o_build rfl rfl ?_
      | refine o_bslice rfl rfl ?_
      | refine o_box rfl rfl ?_
      | refine o_minmax2 rfl rfl rfl ?_
      | refine o_field rfl rfl ?_
      | refine o_append rfl rfl rfl rfl ?_
      | refine o_extract rfl rfl ?_
      | refine o_lenc ?_
      | refine z_drawn0 env0_ok rfl rfl rfl ?_
      | refine o_bin (op := .add) rfl rfl rfl ?_
      | refine o_bin (op := .sub) rfl rfl rfl ?_
      | refine o_eqbt rfl rfl rfl ?_
      | refine o_eqbf rfl rfl rfl ?_
      | refine o_cmpt rfl rfl rfl ?_
      | refine o_cmpf rfl rfl rfl ?_)
    refine o_idxs rfl rfl (Int.natCast_nonneg i) ge rfl ?_
    repeat (first
      | refine z_seq ?_
      | refine z_region rfl ?_
      | refine o_nil ?_
      | refine u_seq ?_
      | refine u_blk ?_
      | refine z_block ?_
      | refine z_skip ?_
      | refine z_ct rfl ?_
      | refine z_cf rfl ?_
      | refine z_exit ?_
      | refine z_ret ?_
      | refine u_exit ?_
      | refine u_exit_seq ?_
      | refine u_exit_other rfl ?_
      | refine u_ret_seq ?_
      | refine u_ret_blk ?_
      | refine o_gy rfl ?_
      | refine o_gn rfl rfl ?_
      | refine o_gt rfl ?_
      | refine o_mov rfl ?_
      | refine o_load rfl rfl ?_
      | refine o_loadn rfl rfl rfl rfl ?_
      | refine o_store rfl rfl rfl rfl rfl rfl rfl ?_
      | refine o_faddrm rfl ?_
      | refine o_faddrv rfl rfl rfl ?_
      | refine o_idxarrm rfl rfl rfl ?_
      | refine o_idxarrv rfl rfl rfl rfl ?_
      | refine o_alloc ?_
      | refine o_pickt rfl rfl ?_
      | refine o_pickf rfl rfl ?_
      | refine o_un rfl rfl ?_
      | refine o_len rfl rfl ?_
      | refine o_build rfl rfl ?_
      | refine o_bslice rfl rfl ?_
      | refine o_box rfl rfl ?_
      | refine o_minmax2 rfl rfl rfl ?_
      | refine o_field rfl rfl ?_
      | refine o_append rfl rfl rfl rfl ?_
      | refine o_extract rfl rfl ?_
      | refine o_lenc ?_
      | refine z_drawn0 env0_ok rfl rfl rfl ?_
      | refine o_bin (op := .add) rfl rfl rfl ?_
      | refine o_bin (op := .sub) rfl rfl rfl ?_
      | refine o_eqbt rfl rfl rfl ?_
      | refine o_eqbf rfl rfl rfl ?_
      | refine o_cmpt rfl rfl rfl ?_
      | refine o_cmpf rfl rfl rfl ?_)
    refine o_callv rfl rfl rfl (hg l[i]) (fun h => Bool.noConfusion (show false = true from h)) ?_
    by_cases hgi : g l[i] = true
    · rw [hgi]
      repeat (first
        | refine z_seq ?_
        | refine z_region rfl ?_
        | refine o_nil ?_
        | refine u_seq ?_
        | refine u_blk ?_
        | refine z_block ?_
        | refine z_skip ?_
        | refine z_ct rfl ?_
        | refine z_cf rfl ?_
        | refine z_exit ?_
        | refine z_ret ?_
        | refine u_exit ?_
        | refine u_exit_seq ?_
        | refine u_exit_other rfl ?_
        | refine u_ret_seq ?_
        | refine u_ret_blk ?_
        | refine o_gy rfl ?_
        | refine o_gn rfl rfl ?_
        | refine o_gt rfl ?_
        | refine o_mov rfl ?_
        | refine o_load rfl rfl ?_
        | refine o_loadn rfl rfl rfl rfl ?_
        | refine o_store rfl rfl rfl rfl rfl rfl rfl ?_
        | refine o_faddrm rfl ?_
        | refine o_faddrv rfl rfl rfl ?_
        | refine o_idxarrm rfl rfl rfl ?_
        | refine o_idxarrv rfl rfl rfl rfl ?_
        | refine o_alloc ?_
        | refine o_pickt rfl rfl ?_
        | refine o_pickf rfl rfl ?_
        | refine o_un rfl rfl ?_
        | refine o_len rfl rfl ?_
        | refine o_build rfl rfl ?_
        | refine o_bslice rfl rfl ?_
        | refine o_box rfl rfl ?_
        | refine o_minmax2 rfl rfl rfl ?_
        | refine o_field rfl rfl ?_
        | refine o_append rfl rfl rfl rfl ?_
        | refine o_extract rfl rfl ?_
        | refine o_lenc ?_
        | refine z_drawn0 env0_ok rfl rfl rfl ?_
        | refine o_bin (op := .add) rfl rfl rfl ?_
        | refine o_bin (op := .sub) rfl rfl rfl ?_
        | refine o_eqbt rfl rfl rfl ?_
        | refine o_eqbf rfl rfl rfl ?_
        | refine o_cmpt rfl rfl rfl ?_
        | refine o_cmpf rfl rfl rfl ?_)
      refine u_out_ret ?_
      repeat (first
        | refine z_seq ?_
        | refine z_region rfl ?_
        | refine o_nil ?_
        | refine u_seq ?_
        | refine u_blk ?_
        | refine z_block ?_
        | refine z_skip ?_
        | refine z_ct rfl ?_
        | refine z_cf rfl ?_
        | refine z_exit ?_
        | refine z_ret ?_
        | refine u_exit ?_
        | refine u_exit_seq ?_
        | refine u_exit_other rfl ?_
        | refine u_ret_seq ?_
        | refine u_ret_blk ?_
        | refine o_gy rfl ?_
        | refine o_gn rfl rfl ?_
        | refine o_gt rfl ?_
        | refine o_mov rfl ?_
        | refine o_load rfl rfl ?_
        | refine o_loadn rfl rfl rfl rfl ?_
        | refine o_store rfl rfl rfl rfl rfl rfl rfl ?_
        | refine o_faddrm rfl ?_
        | refine o_faddrv rfl rfl rfl ?_
        | refine o_idxarrm rfl rfl rfl ?_
        | refine o_idxarrv rfl rfl rfl rfl ?_
        | refine o_alloc ?_
        | refine o_pickt rfl rfl ?_
        | refine o_pickf rfl rfl ?_
        | refine o_un rfl rfl ?_
        | refine o_len rfl rfl ?_
        | refine o_build rfl rfl ?_
        | refine o_bslice rfl rfl ?_
        | refine o_box rfl rfl ?_
        | refine o_minmax2 rfl rfl rfl ?_
        | refine o_field rfl rfl ?_
        | refine o_append rfl rfl rfl rfl ?_
        | refine o_extract rfl rfl ?_
        | refine o_lenc ?_
        | refine z_drawn0 env0_ok rfl rfl rfl ?_
        | refine o_bin (op := .add) rfl rfl rfl ?_
        | refine o_bin (op := .sub) rfl rfl rfl ?_
        | refine o_eqbt rfl rfl rfl ?_
        | refine o_eqbf rfl rfl rfl ?_
        | refine o_cmpt rfl rfl rfl ?_
        | refine o_cmpf rfl rfl rfl ?_)
      refine u_end ⟨.inr rfl, _, rfl, ?_⟩
      rw [hf, findI, if_pos hgi]
      rfl
    · rw [show g l[i] = false by simpa using hgi]
      repeat (first
        | refine z_seq ?_
        | refine z_region rfl ?_
        | refine o_nil ?_
        | refine u_seq ?_
        | refine u_blk ?_
        | refine z_block ?_
        | refine z_skip ?_
        | refine z_ct rfl ?_
        | refine z_cf rfl ?_
        | refine z_exit ?_
        | refine z_ret ?_
        | refine u_exit ?_
        | refine u_exit_seq ?_
        | refine u_exit_other rfl ?_
        | refine u_ret_seq ?_
        | refine u_ret_blk ?_
        | refine o_gy rfl ?_
        | refine o_gn rfl rfl ?_
        | refine o_gt rfl ?_
        | refine o_mov rfl ?_
        | refine o_load rfl rfl ?_
        | refine o_loadn rfl rfl rfl rfl ?_
        | refine o_store rfl rfl rfl rfl rfl rfl rfl ?_
        | refine o_faddrm rfl ?_
        | refine o_faddrv rfl rfl rfl ?_
        | refine o_idxarrm rfl rfl rfl ?_
        | refine o_idxarrv rfl rfl rfl rfl ?_
        | refine o_alloc ?_
        | refine o_pickt rfl rfl ?_
        | refine o_pickf rfl rfl ?_
        | refine o_un rfl rfl ?_
        | refine o_len rfl rfl ?_
        | refine o_build rfl rfl ?_
        | refine o_bslice rfl rfl ?_
        | refine o_box rfl rfl ?_
        | refine o_minmax2 rfl rfl rfl ?_
        | refine o_field rfl rfl ?_
        | refine o_append rfl rfl rfl rfl ?_
        | refine o_extract rfl rfl ?_
        | refine o_lenc ?_
        | refine z_drawn0 env0_ok rfl rfl rfl ?_
        | refine o_bin (op := .add) rfl rfl rfl ?_
        | refine o_bin (op := .sub) rfl rfl rfl ?_
        | refine o_eqbt rfl rfl rfl ?_
        | refine o_eqbf rfl rfl rfl ?_
        | refine o_cmpt rfl rfl rfl ?_
        | refine o_cmpf rfl rfl rfl ?_)
      exact u_round (show l.length - (i + 1) < l.length - i by omega) (sub_ren0 (.cons rfl (.same rfl) (.cons rfl (.same rfl) (.cons rfl (.same rfl) (.cons rfl (.same rfl) (.cons rfl (ren_eq (congrArg (AV.int .i64) (wrap_succ i (by omega))) rfl) .nil)))))) ⟨i + 1, rfl, hlt, by rw [hf, findI, if_neg hgi]; rfl, rfl⟩
  · have hi2 : i = l.length := by
      have := of_decide_eq_false h3
      omega
    repeat (first
      | refine z_seq ?_
      | refine z_region rfl ?_
      | refine o_nil ?_
      | refine u_seq ?_
      | refine u_blk ?_
      | refine z_block ?_
      | refine z_skip ?_
      | refine z_ct rfl ?_
      | refine z_cf rfl ?_
      | refine z_exit ?_
      | refine z_ret ?_
      | refine u_exit ?_
      | refine u_exit_seq ?_
      | refine u_exit_other rfl ?_
      | refine u_ret_seq ?_
      | refine u_ret_blk ?_
      | refine o_gy rfl ?_
      | refine o_gn rfl rfl ?_
      | refine o_gt rfl ?_
      | refine o_mov rfl ?_
      | refine o_load rfl rfl ?_
      | refine o_loadn rfl rfl rfl rfl ?_
      | refine o_store rfl rfl rfl rfl rfl rfl rfl ?_
      | refine o_faddrm rfl ?_
      | refine o_faddrv rfl rfl rfl ?_
      | refine o_idxarrm rfl rfl rfl ?_
      | refine o_idxarrv rfl rfl rfl rfl ?_
      | refine o_alloc ?_
      | refine o_pickt rfl rfl ?_
      | refine o_pickf rfl rfl ?_
      | refine o_un rfl rfl ?_
      | refine o_len rfl rfl ?_
      | refine o_build rfl rfl ?_
      | refine o_bslice rfl rfl ?_
      | refine o_box rfl rfl ?_
      | refine o_minmax2 rfl rfl rfl ?_
      | refine o_field rfl rfl ?_
      | refine o_append rfl rfl rfl rfl ?_
      | refine o_extract rfl rfl ?_
      | refine o_lenc ?_
      | refine z_drawn0 env0_ok rfl rfl rfl ?_
      | refine o_bin (op := .add) rfl rfl rfl ?_
      | refine o_bin (op := .sub) rfl rfl rfl ?_
      | refine o_eqbt rfl rfl rfl ?_
      | refine o_eqbf rfl rfl rfl ?_
      | refine o_cmpt rfl rfl rfl ?_
      | refine o_cmpf rfl rfl rfl ?_)
    refine u_out ?_
    repeat (first
      | refine z_seq ?_
      | refine z_region rfl ?_
      | refine o_nil ?_
      | refine u_seq ?_
      | refine u_blk ?_
      | refine z_block ?_
      | refine z_skip ?_
      | refine z_ct rfl ?_
      | refine z_cf rfl ?_
      | refine z_exit ?_
      | refine z_ret ?_
      | refine u_exit ?_
      | refine u_exit_seq ?_
      | refine u_exit_other rfl ?_
      | refine u_ret_seq ?_
      | refine u_ret_blk ?_
      | refine o_gy rfl ?_
      | refine o_gn rfl rfl ?_
      | refine o_gt rfl ?_
      | refine o_mov rfl ?_
      | refine o_load rfl rfl ?_
      | refine o_loadn rfl rfl rfl rfl ?_
      | refine o_store rfl rfl rfl rfl rfl rfl rfl ?_
      | refine o_faddrm rfl ?_
      | refine o_faddrv rfl rfl rfl ?_
      | refine o_idxarrm rfl rfl rfl ?_
      | refine o_idxarrv rfl rfl rfl rfl ?_
      | refine o_alloc ?_
      | refine o_pickt rfl rfl ?_
      | refine o_pickf rfl rfl ?_
      | refine o_un rfl rfl ?_
      | refine o_len rfl rfl ?_
      | refine o_build rfl rfl ?_
      | refine o_bslice rfl rfl ?_
      | refine o_box rfl rfl ?_
      | refine o_minmax2 rfl rfl rfl ?_
      | refine o_field rfl rfl ?_
      | refine o_append rfl rfl rfl rfl ?_
      | refine o_extract rfl rfl ?_
      | refine o_lenc ?_
      | refine z_drawn0 env0_ok rfl rfl rfl ?_
      | refine o_bin (op := .add) rfl rfl rfl ?_
      | refine o_bin (op := .sub) rfl rfl rfl ?_
      | refine o_eqbt rfl rfl rfl ?_
      | refine o_eqbf rfl rfl rfl ?_
      | refine o_cmpt rfl rfl rfl ?_
      | refine o_cmpf rfl rfl rfl ?_)
    refine u_end ⟨.inr rfl, _, rfl, ?_⟩
    rw [hf, hi2, List.drop_length]
    rfl

theorem findI_ge (g : Ev → Bool) : ∀ (l : List Ev) (i : Int), 0 ≤ i → (decide (findI g l i ≥ 0) = l.any g)
  | [], i, _ => rfl
  | e :: t, i, h => by
    rw [findI, List.any_cons]
    by_cases hg : g e = true
    · rw [if_pos hg, hg]; simp; omega
    · rw [if_neg hg, findI_ge g t (i + 1) (by omega)]
      simp [hg]

-- slices.ContainsFunc[[]pneumatic/guard.Hand,pneumatic/guard.Hand]
def ic21 : IC := .seq (.region [⟨(some 4), .mov (.c (.bool false)), none⟩] none)
  (.seq (.region [⟨(some 5), .mov (.t 0), none⟩,
    ⟨(some 6), .mov (.t 1), none⟩,
    ⟨(some 7), .call (.c (.fn 57 [] [])) [(.t 5), (.t 6)], none⟩,
    ⟨(some 8), .bin .geq (.t 7) (.c (.int .i64 0)), none⟩,
    ⟨(some 4), .mov (.t 8), none⟩] none)
  (.ret))
theorem fn21 : env0.fn 21 = some ⟨9, ic21, [.t 4]⟩ := by kernel_rfl


theorem contains21 (l : List Ev) (g : Ev → Bool) (F : FuncId) (cs : List AV) (hl : l.length ≤ 600) (hg : ∀ e, PF Try.prog F [.agg (rowE e), .vptr cs] (.bool (g e))) : PF Try.prog 21 [.vs (l.map rowE), .fn F [] [.vptr cs]] (.bool (l.any g)) := by
  refine PF_of_Z env0_ok fn21 [(0, .vs (l.map rowE)), (1, .fn F [] [.vptr cs])] (by show 2 ≤ 9; decide) rfl fun w0 N0 => ?_
  unfold ic21
  repeat (first
    | refine z_seq ?_
    | refine z_region rfl ?_
    | refine o_nil ?_
    | refine u_seq ?_
    | refine u_blk ?_
    | refine z_block ?_
    | refine z_skip ?_
    | refine z_ct rfl ?_
    | refine z_cf rfl ?_
    | refine z_exit ?_
    | refine z_ret ?_
    | refine u_exit ?_
    | refine u_exit_seq ?_
    | refine u_exit_other rfl ?_
    | refine u_ret_seq ?_
    | refine u_ret_blk ?_
    | refine o_gy rfl ?_
    | refine o_gn rfl rfl ?_
    | refine o_gt rfl ?_
    | refine o_mov rfl ?_
    | refine o_load rfl rfl ?_
    | refine o_loadn rfl rfl rfl rfl ?_
    | refine o_store rfl rfl rfl rfl rfl rfl rfl ?_
    | refine o_faddrm rfl ?_
    | refine o_faddrv rfl rfl rfl ?_
    | refine o_idxarrm rfl rfl rfl ?_
    | refine o_idxarrv rfl rfl rfl rfl ?_
    | refine o_alloc ?_
    | refine o_pickt rfl rfl ?_
    | refine o_pickf rfl rfl ?_
    | refine o_un rfl rfl ?_
    | refine o_len rfl rfl ?_
    | refine o_build rfl rfl ?_
    | refine o_bslice rfl rfl ?_
    | refine o_box rfl rfl ?_
    | refine o_minmax2 rfl rfl rfl ?_
    | refine o_field rfl rfl ?_
    | refine o_append rfl rfl rfl rfl ?_
    | refine o_extract rfl rfl ?_
    | refine o_lenc ?_
    | refine z_drawn0 env0_ok rfl rfl rfl ?_
    | refine o_bin (op := .add) rfl rfl rfl ?_
    | refine o_bin (op := .sub) rfl rfl rfl ?_
    | refine o_eqbt rfl rfl rfl ?_
    | refine o_eqbf rfl rfl rfl ?_
    | refine o_cmpt rfl rfl rfl ?_
    | refine o_cmpf rfl rfl rfl ?_)
  refine o_call rfl rfl (index57 l g F cs hl hg) (fun h => Bool.noConfusion (show false = true from h)) ?_
  repeat (first
    | refine z_seq ?_
    | refine z_region rfl ?_
    | refine o_nil ?_
    | refine u_seq ?_
    | refine u_blk ?_
    | refine z_block ?_
    | refine z_skip ?_
    | refine z_ct rfl ?_
    | refine z_cf rfl ?_
    | refine z_exit ?_
    | refine z_ret ?_
    | refine u_exit ?_
    | refine u_exit_seq ?_
    | refine u_exit_other rfl ?_
    | refine u_ret_seq ?_
    | refine u_ret_blk ?_
    | refine o_gy rfl ?_
    | refine o_gn rfl rfl ?_
    | refine o_gt rfl ?_
    | refine o_mov rfl ?_
    | refine o_load rfl rfl ?_
    | refine o_loadn rfl rfl rfl rfl ?_
    | refine o_store rfl rfl rfl rfl rfl rfl rfl ?_
    | refine o_faddrm rfl ?_
    | refine o_faddrv rfl rfl rfl ?_
    | refine o_idxarrm rfl rfl rfl ?_
    | refine o_idxarrv rfl rfl rfl rfl ?_
    | refine o_alloc ?_
    | refine o_pickt rfl rfl ?_
    | refine o_pickf rfl rfl ?_
    | refine o_un rfl rfl ?_
    | refine o_len rfl rfl ?_
    | refine o_build rfl rfl ?_
    | refine o_bslice rfl rfl ?_
    | refine o_box rfl rfl ?_
    | refine o_minmax2 rfl rfl rfl ?_
    | refine o_field rfl rfl ?_
    | refine o_append rfl rfl rfl rfl ?_
    | refine o_extract rfl rfl ?_
    | refine o_lenc ?_
    | refine z_drawn0 env0_ok rfl rfl rfl ?_
    | refine o_bin (op := .add) rfl rfl rfl ?_
    | refine o_bin (op := .sub) rfl rfl rfl ?_
    | refine o_eqbt rfl rfl rfl ?_
    | refine o_eqbf rfl rfl rfl ?_
    | refine o_cmpt rfl rfl rfl ?_
    | refine o_cmpf rfl rfl rfl ?_)
  have hx := findI_ge g l 0 (Int.le_refl _)
  refine o_cmp rfl rfl rfl (fun h => ?_) fun h => ?_
  · repeat (first
      | refine z_seq ?_
      | refine z_region rfl ?_
      | refine o_nil ?_
      | refine u_seq ?_
      | refine u_blk ?_
      | refine z_block ?_
      | refine z_skip ?_
      | refine z_ct rfl ?_
      | refine z_cf rfl ?_
      | refine z_exit ?_
      | refine z_ret ?_
      | refine u_exit ?_
      | refine u_exit_seq ?_
      | refine u_exit_other rfl ?_
      | refine u_ret_seq ?_
      | refine u_ret_blk ?_
      | refine o_gy rfl ?_
      | refine o_gn rfl rfl ?_
      | refine o_gt rfl ?_
      | refine o_mov rfl ?_
      | refine o_load rfl rfl ?_
      | refine o_loadn rfl rfl rfl rfl ?_
      | refine o_store rfl rfl rfl rfl rfl rfl rfl ?_
      | refine o_faddrm rfl ?_
      | refine o_faddrv rfl rfl rfl ?_
      | refine o_idxarrm rfl rfl rfl ?_
      | refine o_idxarrv rfl rfl rfl rfl ?_
      | refine o_alloc ?_
      | refine o_pickt rfl rfl ?_
      | refine o_pickf rfl rfl ?_
      | refine o_un rfl rfl ?_
      | refine o_len rfl rfl ?_
      | refine o_build rfl rfl ?_
      | refine o_bslice rfl rfl ?_
      | refine o_box rfl rfl ?_
      | refine o_minmax2 rfl rfl rfl ?_
      | refine o_field rfl rfl ?_
      | refine o_append rfl rfl rfl rfl ?_
      | refine o_extract rfl rfl ?_
      | refine o_lenc ?_
      | refine z_drawn0 env0_ok rfl rfl rfl ?_
      | refine o_bin (op := .add) rfl rfl rfl ?_
      | refine o_bin (op := .sub) rfl rfl rfl ?_
      | refine o_eqbt rfl rfl rfl ?_
      | refine o_eqbf rfl rfl rfl ?_
      | refine o_cmpt rfl rfl rfl ?_
      | refine o_cmpf rfl rfl rfl ?_)
    refine u_end ⟨.inr rfl, _, rfl, ?_⟩
    rw [← hx, show decide (findI g l 0 ≥ 0) = true from h]
    rfl
  · repeat (first
      | refine z_seq ?_
      | refine z_region rfl ?_
      | refine o_nil ?_
      | refine u_seq ?_
      | refine u_blk ?_
      | refine z_block ?_
      | refine z_skip ?_
      | refine z_ct rfl ?_
      | refine z_cf rfl ?_
      | refine z_exit ?_
      | refine z_ret ?_
      | refine u_exit ?_
      | refine u_exit_seq ?_
      | refine u_exit_other rfl ?_
      | refine u_ret_seq ?_
      | refine u_ret_blk ?_
      | refine o_gy rfl ?_
      | refine o_gn rfl rfl ?_
      | refine o_gt rfl ?_
      | refine o_mov rfl ?_
      | refine o_load rfl rfl ?_
      | refine o_loadn rfl rfl rfl rfl ?_
      | refine o_store rfl rfl rfl rfl rfl rfl rfl ?_
      | refine o_faddrm rfl ?_
      | refine o_faddrv rfl rfl rfl ?_
      | refine o_idxarrm rfl rfl rfl ?_
      | refine o_idxarrv rfl rfl rfl rfl ?_
      | refine o_alloc ?_
      | refine o_pickt rfl rfl ?_
      | refine o_pickf rfl rfl ?_
      | refine o_un rfl rfl ?_
      | refine o_len rfl rfl ?_
      | refine o_build rfl rfl ?_
      | refine o_bslice rfl rfl ?_
      | refine o_box rfl rfl ?_
      | refine o_minmax2 rfl rfl rfl ?_
      | refine o_field rfl rfl ?_
      | refine o_append rfl rfl rfl rfl ?_
      | refine o_extract rfl rfl ?_
      | refine o_lenc ?_
      | refine z_drawn0 env0_ok rfl rfl rfl ?_
      | refine o_bin (op := .add) rfl rfl rfl ?_
      | refine o_bin (op := .sub) rfl rfl rfl ?_
      | refine o_eqbt rfl rfl rfl ?_
      | refine o_eqbf rfl rfl rfl ?_
      | refine o_cmpt rfl rfl rfl ?_
      | refine o_cmpf rfl rfl rfl ?_)
    refine u_end ⟨.inr rfl, _, rfl, ?_⟩
    rw [← hx, show decide (findI g l 0 ≥ 0) = false from h]
    rfl

end Go.Proofs.Ytofkihmckookjaa
