/-
  THE FIRST STROKE OF A HOMING: homing.Levels, homing.first; the reference's Levels.
-/
import Derived.Test.YtoiblgbaeglgoaaVH13
namespace Go.Proofs.Ytoiblgbaeglgoaa
open Go Go.Am

def levV (l : List Ex) (n : Int) : AV := if guardC l n = 0 then .tup [vsI (levL l n.toNat), .int .i64 0] else .tup [vsI [], .int .i64 (guardC l n)]

-- pneumatic/homing.Levels
def ic42 : IC := .seq (.region [⟨(some 2), .box (.t 0), none⟩,
    ⟨(some 4), .mov (.c (.nils)), none⟩,
    ⟨(some 5), .mov (.c (.int .i64 0)), none⟩] none)
  (.seq (.seq (.region [⟨(some 7), .load (some 1) (.t 2), none⟩,
    ⟨(some 8), .mov (.t 1), none⟩,
    ⟨(some 9), .call (.c (.fn 80 [] [])) [(.t 7), (.t 8)], none⟩,
    ⟨(some 6), .mov (.t 9), none⟩] none)
  (.seq (.region [⟨(some 10), .mov (.t 6), none⟩,
    ⟨(some 11), .bin .neq (.t 10) (.c (.int .i64 0)), none⟩] none)
  (.cond (.t 11) (.seq (.region [⟨(some 12), .mov (.t 6), none⟩,
    ⟨(some 4), .mov (.c (.nils)), none⟩,
    ⟨(some 5), .mov (.t 12), none⟩] none)
  (.ret))
  (.skip))))
  (.seq (.region [⟨(some 13), .load (some 1) (.t 2), none⟩,
    ⟨(some 14), .mov (.t 1), none⟩,
    ⟨(some 15), .call (.c (.fn 96 [] [])) [(.t 13), (.t 14)], none⟩,
    ⟨(some 4), .mov (.t 15), none⟩,
    ⟨(some 5), .mov (.c (.int .i64 0)), none⟩] none)
  (.ret)))
theorem fn42 : env0.fn 42 = some ⟨16, ic42, [.t 4, .t 5]⟩ := by kernel_rfl

theorem levels42 (l : List Ex) (hsl : ∀ y ∈ l, Slim y) (n : Int) (h4 : guardC l n = 0 → n ≤ 4) : PF Try.prog 42 [.agg [.vs (cXs l)], .int .i64 n] (levV l n) := by
  have h28 := gcheck28 l hsl n
  refine PF_of_Z env0_ok fn42 [(0, .agg [.vs (cXs l)]), (1, .int .i64 n)] (by show 2 ≤ 16; decide) rfl fun w0 N0 => ?_
  unfold ic42 levV
  repeat (first | refine z_seq ?_ | refine z_region rfl ?_ | refine o_nil ?_ | refine u_seq ?_ | refine o_mov rfl ?_ | refine o_loadn rfl rfl rfl rfl ?_ | refine o_box rfl rfl ?_)
  refine o_call rfl rfl h28 (fun h => Bool.noConfusion (show false = true from h)) ?_
  by_cases hg : guardC l n = 0
  · rw [if_pos hg]
    obtain ⟨g1, g2, g3, g4⟩ := guardC_ok hg
    have h4 := h4 hg
    obtain ⟨m, rfl⟩ : ∃ m : Nat, n = (m : Int) := ⟨n.toNat, by omega⟩
    rw [Int.toNat_natCast, hg]
    have hl := levels96 l hsl (n := m) (by omega) (by omega) hg
    repeat (first | refine z_seq ?_ | refine z_region rfl ?_ | refine o_nil ?_ | refine u_seq ?_ | refine z_skip ?_ | refine z_cf rfl ?_ | refine o_mov rfl ?_ | refine o_loadn rfl rfl rfl rfl ?_ | refine o_cmpf rfl rfl rfl ?_)
    refine o_call rfl rfl hl (fun h => Bool.noConfusion (show false = true from h)) ?_
    repeat (first | refine o_nil ?_ | refine u_seq ?_ | refine z_ret ?_ | refine o_mov rfl ?_)
    exact u_end ⟨.inr rfl, _, rfl, rfl⟩
  · rw [if_neg hg]
    repeat (first | refine z_seq ?_ | refine z_region rfl ?_ | refine o_nil ?_ | refine u_seq ?_ | refine o_mov rfl ?_)
    refine o_cmp rfl rfl rfl (fun h => ?_) fun h => absurd (by simpa using h) hg
    repeat (first | refine z_seq ?_ | refine z_region rfl ?_ | refine o_nil ?_ | refine u_seq ?_ | refine z_ct rfl ?_ | refine z_ret ?_ | refine u_ret_seq ?_ | refine o_mov rfl ?_)
    exact u_end ⟨.inr rfl, _, rfl, rfl⟩

def down (n : Nat) (D : List Int) (k i : Nat) : Bool := D.getD (nxt n k i) 0 == D.getD k 0 - 1

theorem vsI_getD {D : List Int} {k : Nat} (hk : k < D.length) : (D.map fun z => ([.int .i64 z] : List AV))[((k : Nat) : Int).toNat]? = some [.int .i64 (D.getD k 0)] := by
  rw [Int.toNat_natCast, List.getElem?_map, List.getD_eq_getElem?_getD, List.getElem?_eq_getElem hk]
  rfl

-- slices.IndexFunc[[]pneumatic/api.Stroke,pneumatic/api.Stroke]
end Go.Proofs.Ytoiblgbaeglgoaa
