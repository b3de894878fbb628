/-
  STROKES AND THE OPPOSITE ONES: the law's walk.
-/
import Derived.Test.YtoiblgbaeglgoaaVH17
namespace Go.Proofs.Ytoiblgbaeglgoaa
open Go Go.Am

-- pneumatic/pneumaticlaw50.right
def ic40 : IC := .seq (.region [⟨(some 2), .box (.t 0), none⟩,
    ⟨(some 4), .mov (.c (.bool false)), none⟩] none)
  (.seq (.region [⟨(some 5), .mov (.t 1), none⟩,
    ⟨(some 6), .bin .geq (.t 5) (.c (.int .i64 1)), none⟩,
    ⟨(some 7), .mov (.t 6), none⟩,
    ⟨(some 8), .mov (.t 1), some (7, true)⟩,
    ⟨(some 9), .bin .leq (.t 8) (.c (.int .i64 4)), some (7, true)⟩,
    ⟨(some 10), .pick (.t 7) (.t 9) (.c (.bool false)), none⟩,
    ⟨(some 11), .mov (.t 10), none⟩,
    ⟨(some 12), .faddr 0 (.t 2), some (11, true)⟩,
    ⟨(some 13), .load none (.t 12), some (11, true)⟩,
    ⟨(some 14), .len false (.t 13), some (11, true)⟩,
    ⟨(some 15), .bin .leq (.t 14) (.c (.int .i64 6)), some (11, true)⟩,
    ⟨(some 16), .pick (.t 11) (.t 15) (.c (.bool false)), none⟩,
    ⟨(some 17), .mov (.t 16), none⟩,
    ⟨(some 18), .load (some 1) (.t 2), some (17, true)⟩,
    ⟨(some 19), .call (.c (.fn 35 [] [])) [(.t 18)], some (17, true)⟩,
    ⟨(some 20), .call (.c (.fn 15 [] [])) [(.t 19)], some (17, true)⟩,
    ⟨(some 21), .pick (.t 17) (.t 20) (.c (.bool false)), none⟩,
    ⟨(some 22), .mov (.t 21), none⟩,
    ⟨(some 23), .load (some 1) (.t 2), some (22, true)⟩,
    ⟨(some 24), .call (.c (.fn 35 [] [])) [(.t 23)], some (22, true)⟩,
    ⟨(some 25), .mov (.t 1), some (22, true)⟩,
    ⟨(some 26), .call (.c (.fn 67 [] [])) [(.t 24), (.t 25)], some (22, true)⟩,
    ⟨(some 27), .bin .eql (.t 26) (.c (.int .i64 0)), some (22, true)⟩,
    ⟨(some 28), .pick (.t 22) (.t 27) (.c (.bool false)), none⟩,
    ⟨(some 4), .mov (.t 28), none⟩] none)
  (.ret))
theorem fn40 : env0.fn 40 = some ⟨29, ic40, [.t 4]⟩ := by kernel_rfl

def rightB (l : List Ex) (n : Int) : Bool := decide (n ≥ 1) && decide (n ≤ 4) && decide ((l.length : Int) ≤ 6) && fewB l && (guardC l n == 0)

theorem right40 (l : List Ex) (hlen : l.length < 9223372036854775808) (hsl : ∀ y ∈ l, Slim y) (n : Int) : PF Try.prog 40 [.agg [.vs (cXs l)], .int .i64 n] (.bool (rightB l n)) := by
  have hown := own35 l
  have hfew := few11 l hlen hsl
  have hgc := gcheck29 l hsl n
  have hcl : (cXs l).length = l.length := cXs_length l
  refine PF_of_Z env0_ok fn40 [(0, .agg [.vs (cXs l)]), (1, .int .i64 n)] (by show 2 ≤ 29; decide) rfl fun w0 N0 => ?_
  unfold ic40 rightB
  repeat (first | refine z_seq ?_ | refine z_region rfl ?_ | refine o_nil ?_ | refine u_seq ?_ | refine o_mov rfl ?_ | refine o_box rfl rfl ?_)
  refine o_cmp rfl rfl rfl (fun h => ?_) fun h => ?_
  · rw [h]
    repeat (first | refine o_gy rfl ?_ | refine o_mov rfl ?_)
    refine o_cmp rfl rfl rfl (fun h2 => ?_) fun h2 => ?_
    · rw [h2]
      repeat (first | refine o_gy rfl ?_ | refine o_mov rfl ?_ | refine o_load rfl rfl ?_ | refine o_faddrm rfl ?_ | refine o_pickt rfl rfl ?_ | refine o_len rfl rfl ?_)
      rw [hcl]
      refine o_cmp rfl rfl rfl (fun h3 => ?_) fun h3 => ?_
      · rw [h3]
        repeat (first | refine o_gy rfl ?_ | refine o_mov rfl ?_ | refine o_loadn rfl rfl rfl rfl ?_ | refine o_pickt rfl rfl ?_)
        refine o_call rfl rfl hown (fun h => Bool.noConfusion (show false = true from h)) ?_
        repeat (first | refine o_gy rfl ?_)
        refine o_call rfl rfl hfew (fun h => Bool.noConfusion (show false = true from h)) ?_
        cases hf : fewB l with
        | true =>
          repeat (first | refine o_gy rfl ?_ | refine o_mov rfl ?_ | refine o_loadn rfl rfl rfl rfl ?_ | refine o_pickt rfl rfl ?_)
          refine o_call rfl rfl hown (fun h => Bool.noConfusion (show false = true from h)) ?_
          repeat (first | refine o_gy rfl ?_ | refine o_mov rfl ?_)
          refine o_call rfl rfl hgc (fun h => Bool.noConfusion (show false = true from h)) ?_
          repeat (first | refine o_gy rfl ?_)
          refine o_bin (op := .eql) rfl rfl rfl ?_
          repeat (first | refine o_nil ?_ | refine u_seq ?_ | refine z_ret ?_ | refine o_mov rfl ?_ | refine o_pickt rfl rfl ?_)
          exact u_end ⟨.inr rfl, _, rfl, rfl⟩
        | false =>
          repeat (first | refine o_nil ?_ | refine u_seq ?_ | refine z_ret ?_ | refine o_gn rfl rfl ?_ | refine o_mov rfl ?_ | refine o_pickt rfl rfl ?_ | refine o_pickf rfl rfl ?_)
          exact u_end ⟨.inr rfl, _, rfl, rfl⟩
      · rw [h3]
        repeat (first | refine o_nil ?_ | refine u_seq ?_ | refine z_ret ?_ | refine o_gn rfl rfl ?_ | refine o_mov rfl ?_ | refine o_pickt rfl rfl ?_ | refine o_pickf rfl rfl ?_)
        exact u_end ⟨.inr rfl, _, rfl, rfl⟩
    · rw [h2]
      repeat (first | refine o_nil ?_ | refine u_seq ?_ | refine z_ret ?_ | refine o_gn rfl rfl ?_ | refine o_mov rfl ?_ | refine o_pickt rfl rfl ?_ | refine o_pickf rfl rfl ?_)
      exact u_end ⟨.inr rfl, _, rfl, rfl⟩
  · rw [h]
    repeat (first | refine o_nil ?_ | refine u_seq ?_ | refine z_ret ?_ | refine o_gn rfl rfl ?_ | refine o_mov rfl ?_ | refine o_pickf rfl rfl ?_)
    exact u_end ⟨.inr rfl, _, rfl, rfl⟩

theorem right_ok {l : List Ex} {n : Int} (h : rightB l n = true) : 1 ≤ n ∧ n ≤ 4 ∧ l.length ≤ 6 ∧ guardC l n = 0 := by
  unfold rightB at h
  simp only [Bool.and_eq_true, decide_eq_true_eq, beq_iff_eq] at h
  omega

-- slices.Index[[]pneumatic/api.Stroke,pneumatic/api.Stroke]
-- slices.Contains[[]pneumatic/api.Stroke,pneumatic/api.Stroke]
end Go.Proofs.Ytoiblgbaeglgoaa
