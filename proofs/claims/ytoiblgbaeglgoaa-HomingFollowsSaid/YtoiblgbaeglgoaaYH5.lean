/-
  THE STROKES THAT ARE PERMITTED: the reference's Moves, and Permitted twice.
-/
import Derived.Test.YtoiblgbaeglgoaaYH4
namespace Go.Proofs.Ytoiblgbaeglgoaa
open Go Go.Am

def permV (l : List Ex) (e : List Bool) : AV := if guardC l e.length = 0 then .tup [.vs (cSs (movesL l e)), .int .i64 0] else .tup [.vs [], .int .i64 (guardC l e.length)]

-- pneumatic/homing.Permitted
def ic43 : IC := .seq (.region [⟨(some 2), .box (.t 0), none⟩,
    ⟨(some 4), .mov (.c (.nils)), none⟩,
    ⟨(some 5), .mov (.c (.int .i64 0)), none⟩] none)
  (.seq (.seq (.region [⟨(some 7), .load (some 1) (.t 2), none⟩,
    ⟨(some 8), .mov (.t 1), none⟩,
    ⟨(some 9), .len false (.t 8), none⟩,
    ⟨(some 10), .call (.c (.fn 80 [] [])) [(.t 7), (.t 9)], none⟩,
    ⟨(some 6), .mov (.t 10), none⟩] none)
  (.seq (.region [⟨(some 11), .mov (.t 6), none⟩,
    ⟨(some 12), .bin .neq (.t 11) (.c (.int .i64 0)), none⟩] none)
  (.cond (.t 12) (.seq (.region [⟨(some 13), .mov (.t 6), none⟩,
    ⟨(some 4), .mov (.c (.nils)), none⟩,
    ⟨(some 5), .mov (.t 13), none⟩] none)
  (.ret))
  (.skip))))
  (.seq (.region [⟨(some 14), .load (some 1) (.t 2), none⟩,
    ⟨(some 15), .mov (.t 1), none⟩,
    ⟨(some 16), .len false (.t 15), none⟩,
    ⟨(some 17), .mov (.t 1), none⟩,
    ⟨(some 18), .call (.c (.fn 93 [] [])) [(.t 17)], none⟩,
    ⟨(some 19), .call (.c (.fn 101 [] [])) [(.t 14), (.t 16), (.t 18)], none⟩,
    ⟨(some 4), .mov (.t 19), none⟩,
    ⟨(some 5), .mov (.c (.int .i64 0)), none⟩] (some [[], [], [1], [], [3], [0, 2, 4, 4], [5, 5, 0, 1, 2, 3, 4, 5], [6, 0, 1, 2, 3, 4, 5, 6]]))
  (.ret)))
theorem fn43 : env0.fn 43 = some ⟨20, ic43, [.t 4, .t 5]⟩ := by kernel_rfl

theorem permitted43 (l : List Ex) (hsl : ∀ y ∈ l, Slim y) (e : List Bool) (h4 : guardC l e.length = 0 → e.length ≤ 4) : PF Try.prog 43 [.agg [.vs (cXs l)], vsB e] (permV l e) := by
  have h28 := gcheck28 l hsl e.length
  have hel : (e.map fun b => ([.bool b] : List AV)).length = e.length := List.length_map ..
  refine PF_of_Z env0_ok fn43 [(0, .agg [.vs (cXs l)]), (1, vsB e)] (by show 2 ≤ 20; decide) rfl fun w0 N0 => ?_
  unfold ic43 permV
  repeat (first | refine z_seq ?_ | refine z_region rfl ?_ | refine o_nil ?_ | refine u_seq ?_ | refine o_mov rfl ?_ | refine o_loadn rfl rfl rfl rfl ?_ | refine o_len rfl rfl ?_ | refine o_box rfl rfl ?_)
  rw [hel]
  refine o_call rfl rfl h28 (fun h => Bool.noConfusion (show false = true from h)) ?_
  by_cases hg : guardC l e.length = 0
  · rw [if_pos hg, hg]
    obtain ⟨g1, g2, g3, g4⟩ := guardC_ok hg
    have h4 := h4 hg
    have h1 : 1 ≤ e.length := by omega
    have hi := index93 h1 h4
    have hm := moves101 l hsl e h1 h4 hg
    repeat (first | refine z_seq ?_ | refine z_region rfl ?_ | refine o_nil ?_ | refine u_seq ?_ | refine z_skip ?_ | refine z_cf rfl ?_ | refine o_mov rfl ?_ | refine o_cmpf rfl rfl rfl ?_)
    refine z_drawn env0_ok [(93, [vsB e], .int .i64 (idxE e : Nat)), (101, [.agg [.vs (cXs l)], .int .i64 (e.length : Nat), .int .i64 (idxE e : Nat)], .vs (cSs (movesL l e)))] (fun x hx => by
      rcases List.mem_cons.1 hx with rfl | hx
      · exact hi
      obtain rfl := List.mem_singleton.1 hx
      exact hm) (fun f => Nat.beq f 93 || Nat.beq f 101) rfl rfl rfl ?_
    repeat (first | refine o_mov rfl ?_ | refine o_loadn rfl rfl rfl rfl ?_ | refine o_len rfl rfl ?_)
    rw [hel]
    refine o_call rfl rfl lookL_here (fun h => Bool.noConfusion (show false = true from h)) ?_
    refine o_call rfl rfl (lookL_next (by decide) lookL_here) (fun h => Bool.noConfusion (show false = true from h)) ?_
    repeat (first | refine o_nil ?_ | refine u_seq ?_ | refine z_ret ?_ | refine o_mov rfl ?_)
    exact u_end ⟨.inr rfl, _, rfl, rfl⟩
  · rw [if_neg hg]
    repeat (first | refine z_seq ?_ | refine z_region rfl ?_ | refine o_nil ?_ | refine u_seq ?_ | refine o_mov rfl ?_)
    refine o_cmp rfl rfl rfl (fun h => ?_) fun h => absurd (by simpa using h) hg
    repeat (first | refine z_seq ?_ | refine z_region rfl ?_ | refine o_nil ?_ | refine u_seq ?_ | refine z_ct rfl ?_ | refine z_ret ?_ | refine u_ret_seq ?_ | refine o_mov rfl ?_)
    exact u_end ⟨.inr rfl, _, rfl, rfl⟩

-- pneumatic/pneumaticlaw50.own
def ic35 : IC := .seq (.region [⟨(some 1), .box (.t 0), none⟩,
    ⟨(some 2), .alloc [.nils], none⟩] none)
  (.seq (.region [⟨(some 3), .load (some 1) (.t 1), none⟩,
    ⟨none, .store 1 (.t 2) (.t 3), none⟩] none)
  (.ret))
theorem fn35 : env0.fn 35 = some ⟨4, ic35, [.cell 2 (some 1)]⟩ := by kernel_rfl

theorem own35 (l : List Ex) : PF Try.prog 35 [.agg [.vs (cXs l)]] (.agg [.vs (cXs l)]) := by
  refine PF_of_Z env0_ok fn35 [(0, .agg [.vs (cXs l)])] (by show 1 ≤ 4; decide) rfl fun w0 N0 => ?_
  unfold ic35
  repeat (first | refine z_seq ?_ | refine z_region rfl ?_ | refine o_nil ?_ | refine u_seq ?_ | refine z_ret ?_ | refine o_loadn rfl rfl rfl rfl ?_ | refine o_store rfl rfl rfl rfl rfl rfl rfl ?_ | refine o_alloc ?_ | refine o_box rfl rfl ?_)
  exact u_end ⟨.inr rfl, _, rfl, rfl⟩

end Go.Proofs.Ytoiblgbaeglgoaa
