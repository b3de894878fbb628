/-
  POSITIONS OF A GUARD: Allowed, and equal lists of numbers.
-/
import Derived.Test.YtofkihmckookjaaR19
namespace Go.Proofs.Ytofkihmckookjaa
open Go Go.Am

def allowedV (l : List Ex) (e : List Int) : AV := if posC l e = 0 then .tup [.bool (trues l e).isEmpty, .int .i64 0] else .tup [.bool false, .int .i64 (posC l e)]

theorem len_empty (l : List Int) : ((((l.map fun z => ([.int .i64 z] : List AV)).length : Nat) : Int) == 0) = l.isEmpty := by
  cases l with
  | nil => rfl
  | cons a t =>
    have : ¬ ((((a :: t).map fun z => ([.int .i64 z] : List AV)).length : Nat) : Int) = 0 := by
      rw [List.length_map, List.length_cons]; omega
    simpa using this

-- pneumatic/guard.Allowed
def ic24 : IC := .seq (.region [⟨(some 2), .box (.t 0), none⟩,
    ⟨(some 4), .mov (.c (.bool false)), none⟩,
    ⟨(some 5), .mov (.c (.int .i64 0)), none⟩] none)
  (.seq (.region [⟨(some 9), .load (some 1) (.t 2), none⟩,
    ⟨(some 10), .mov (.t 1), none⟩,
    ⟨(some 11), .call (.c (.fn 26 [] [])) [(.t 9), (.t 10)], none⟩,
    ⟨(some 8), .mov (.t 11), none⟩,
    ⟨(some 12), .extract (.t 8) 0, none⟩,
    ⟨(some 13), .extract (.t 8) 1, none⟩,
    ⟨(some 6), .mov (.t 12), none⟩,
    ⟨(some 7), .mov (.t 13), none⟩] none)
  (.seq (.region [⟨(some 14), .mov (.t 7), none⟩,
    ⟨(some 15), .bin .eql (.t 14) (.c (.int .i64 0)), none⟩,
    ⟨(some 16), .mov (.t 15), none⟩,
    ⟨(some 17), .mov (.t 6), some (16, true)⟩,
    ⟨(some 18), .len false (.t 17), some (16, true)⟩,
    ⟨(some 19), .bin .eql (.t 18) (.c (.int .i64 0)), some (16, true)⟩,
    ⟨(some 20), .pick (.t 16) (.t 19) (.c (.bool false)), none⟩,
    ⟨(some 21), .mov (.t 7), none⟩,
    ⟨(some 4), .mov (.t 20), none⟩,
    ⟨(some 5), .mov (.t 21), none⟩] none)
  (.ret)))
theorem fn24 : env0.fn 24 = some ⟨22, ic24, [.t 4, .t 5]⟩ := by kernel_rfl


set_option maxHeartbeats 2000000 in
theorem allowed24 (l : List Ex) (hsl : ∀ y ∈ l, Slim y) (e : List Int) : PF Try.prog 24 [.agg [.vs (cXs l)], vsI e] (allowedV l e) := by
  have h26 := which26 l hsl e
  refine PF_of_Z env0_ok fn24 [(0, .agg [.vs (cXs l)]), (1, vsI e)] (by show 2 ≤ 22; decide) rfl fun w0 N0 => ?_
  unfold ic24 allowedV
  unfold whichV at h26
  repeat (first | refine z_seq ?_ | refine z_region rfl ?_ | refine o_nil ?_ | refine u_seq ?_ | refine o_mov rfl ?_ | refine o_loadn rfl rfl rfl rfl ?_ | refine o_box rfl rfl ?_)
  by_cases h1 : posC l e = 0
  · rw [if_pos h1] at h26
    rw [if_pos h1]
    refine o_call rfl rfl h26 (fun h => Bool.noConfusion (show false = true from h)) ?_
    repeat (first | refine z_seq ?_ | refine z_region rfl ?_ | refine o_nil ?_ | refine u_seq ?_ | refine o_gy rfl ?_ | refine o_mov rfl ?_ | refine o_len rfl rfl ?_ | refine o_extract rfl rfl ?_ | refine o_cmpt rfl rfl rfl ?_)
    refine o_bin (op := .eql) rfl rfl rfl ?_
    rw [len_empty]
    repeat (first | refine o_nil ?_ | refine u_seq ?_ | refine z_ret ?_ | refine o_mov rfl ?_ | refine o_pickt rfl rfl ?_)
    exact u_end ⟨.inr rfl, _, rfl, rfl⟩
  · rw [if_neg h1] at h26
    rw [if_neg h1]
    refine o_call rfl rfl h26 (fun h => Bool.noConfusion (show false = true from h)) ?_
    repeat (first | refine z_seq ?_ | refine z_region rfl ?_ | refine o_nil ?_ | refine u_seq ?_ | refine o_mov rfl ?_ | refine o_extract rfl rfl ?_)
    refine o_cmp rfl rfl rfl (fun h2 => absurd (beq_iff_eq.1 h2) h1) fun _ => ?_
    repeat (first | refine o_nil ?_ | refine u_seq ?_ | refine z_ret ?_ | refine o_gn rfl rfl ?_ | refine o_mov rfl ?_ | refine o_pickf rfl rfl ?_)
    exact u_end ⟨.inr rfl, _, rfl, rfl⟩

-- pneumatic/pneumaticref49.Allowed
def ic25 : IC := .seq (.region [⟨(some 2), .box (.t 0), none⟩,
    ⟨(some 4), .mov (.c (.bool false)), none⟩,
    ⟨(some 5), .mov (.c (.int .i64 0)), none⟩] none)
  (.seq (.seq (.region [⟨(some 7), .load (some 1) (.t 2), none⟩,
    ⟨(some 8), .mov (.t 1), none⟩,
    ⟨(some 9), .call (.c (.fn 58 [] [])) [(.t 7), (.t 8)], none⟩,
    ⟨(some 6), .mov (.t 9), none⟩] none)
  (.seq (.region [⟨(some 10), .mov (.t 6), none⟩,
    ⟨(some 11), .bin .neq (.t 10) (.c (.int .i64 0)), none⟩] none)
  (.cond (.t 11) (.seq (.region [⟨(some 12), .mov (.t 6), none⟩,
    ⟨(some 4), .mov (.c (.bool false)), none⟩,
    ⟨(some 5), .mov (.t 12), none⟩] none)
  (.ret))
  (.skip))))
  (.seq (.region [⟨(some 13), .load (some 1) (.t 2), none⟩,
    ⟨(some 14), .mov (.t 1), none⟩,
    ⟨(some 15), .call (.c (.fn 55 [] [])) [(.t 13), (.t 14)], none⟩,
    ⟨(some 16), .len false (.t 15), none⟩,
    ⟨(some 17), .bin .eql (.t 16) (.c (.int .i64 0)), none⟩,
    ⟨(some 4), .mov (.t 17), none⟩,
    ⟨(some 5), .mov (.c (.int .i64 0)), none⟩] none)
  (.ret)))
theorem fn25 : env0.fn 25 = some ⟨18, ic25, [.t 4, .t 5]⟩ := by kernel_rfl


set_option maxHeartbeats 2000000 in
theorem allowed25 (l : List Ex) (hsl : ∀ y ∈ l, Slim y) (e : List Int) : PF Try.prog 25 [.agg [.vs (cXs l)], vsI e] (allowedV l e) := by
  have h58 := positions58 l hsl e
  refine PF_of_Z env0_ok fn25 [(0, .agg [.vs (cXs l)]), (1, vsI e)] (by show 2 ≤ 18; decide) rfl fun w0 N0 => ?_
  unfold ic25 allowedV
  repeat (first | refine z_seq ?_ | refine z_region rfl ?_ | refine o_nil ?_ | refine u_seq ?_ | refine o_mov rfl ?_ | refine o_loadn rfl rfl rfl rfl ?_ | refine o_box rfl rfl ?_)
  refine o_call rfl rfl h58 (fun h => Bool.noConfusion (show false = true from h)) ?_
  repeat (first | refine z_seq ?_ | refine z_region rfl ?_ | refine o_nil ?_ | refine u_seq ?_ | refine o_mov rfl ?_)
  refine o_cmp rfl rfl rfl (fun h1 => ?_) fun h1 => ?_
  · have h1 := bne_iff_ne.1 h1
    rw [if_neg h1]
    repeat (first | refine z_seq ?_ | refine z_region rfl ?_ | refine o_nil ?_ | refine u_seq ?_ | refine z_ct rfl ?_ | refine z_ret ?_ | refine u_ret_seq ?_ | refine o_mov rfl ?_)
    exact u_end ⟨.inr rfl, _, rfl, rfl⟩
  have h1 : posC l e = 0 := by simpa using h1
  rw [if_pos h1]
  obtain ⟨g1, g2, g3, g4⟩ := guardC_ok (posC_ok h1).1
  have h55 := true55 l (by omega) e (by omega) (by omega) (fun y hy => by rw [sw_len2]; exact nds_of (g4 y hy))
  repeat (first | refine z_seq ?_ | refine z_region rfl ?_ | refine o_nil ?_ | refine u_seq ?_ | refine z_skip ?_ | refine z_cf rfl ?_ | refine o_mov rfl ?_ | refine o_loadn rfl rfl rfl rfl ?_)
  refine o_call rfl rfl h55 (fun h => Bool.noConfusion (show false = true from h)) ?_
  repeat (first | refine o_len rfl rfl ?_)
  refine o_bin (op := .eql) rfl rfl rfl ?_
  rw [show (((((idxs (holdB (sw e)) 0 l).map fun z => ([.int .i64 z] : List AV)).length : Nat) : Int) == 0) = (trues l e).isEmpty from len_empty _]
  repeat (first | refine o_nil ?_ | refine u_seq ?_ | refine z_ret ?_ | refine o_mov rfl ?_)
  exact u_end ⟨.inr rfl, _, rfl, rfl⟩

end Go.Proofs.Ytofkihmckookjaa
