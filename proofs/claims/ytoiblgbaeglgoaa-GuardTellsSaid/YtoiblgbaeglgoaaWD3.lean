/-
  RIGHT GUARDS; POSITIONS OF STEPS, in plain Lean.
-/
import Derived.Test.YtoiblgbaeglgoaaWS17
import Derived.Test.YtoiblgbaeglgoaaWQD
namespace Go.Proofs.Ytoiblgbaeglgoaa
open Go Go.Am
def zg0 (l : List Ex) (n : Int) : Bool := decide (1 ≤ n ∧ n ≤ 4 ∧ l.length ≤ 8 ∧ fewB l = true ∧ zc5 l n = 0)
-- pneumatic/pneumaticlaw49.right
def ic22 : IC := .seq (.region [⟨(some 2), .box (.t 0), none⟩,
  ⟨(some 4), .mov (.c (.bool false)), none⟩] none)
 (.seq (.region [⟨(some 5), .mov (.t 1), none⟩,
  ⟨(some 6), .bin .geq (.t 5) (.c (.int .i64 1)), none⟩,
  ⟨(some 7), .mov (.t 6), none⟩,
  ⟨(some 8), .mov (.t 1), some (7, true)⟩,
  ⟨(some 9), .bin .leq (.t 8) (.c (.int .i64 4)), some (7, true)⟩,
  ⟨(some 10), .pick (.t 7) (.t 9) (.c (.bool false)), none⟩,
  ⟨(some 11), .mov (.t 10), none⟩,
  ⟨(some 12), .faddr 0 (.t 2), some (11, true)⟩,
  ⟨(some 13), .load none (.t 12), some (11, true)⟩,
  ⟨(some 14), .len false (.t 13), some (11, true)⟩,
  ⟨(some 15), .bin .leq (.t 14) (.c (.int .i64 8)), some (11, true)⟩,
  ⟨(some 16), .pick (.t 11) (.t 15) (.c (.bool false)), none⟩,
  ⟨(some 17), .mov (.t 16), none⟩,
  ⟨(some 18), .load (some 1) (.t 2), some (17, true)⟩,
  ⟨(some 19), .call (.c (.fn 15 [] [])) [(.t 18)], some (17, true)⟩,
  ⟨(some 20), .pick (.t 17) (.t 19) (.c (.bool false)), none⟩,
  ⟨(some 21), .mov (.t 20), none⟩,
  ⟨(some 22), .load (some 1) (.t 2), some (21, true)⟩,
  ⟨(some 23), .mov (.t 1), some (21, true)⟩,
  ⟨(some 24), .call (.c (.fn 67 [] [])) [(.t 22), (.t 23)], some (21, true)⟩,
  ⟨(some 25), .bin .eql (.t 24) (.c (.int .i64 0)), some (21, true)⟩,
  ⟨(some 26), .pick (.t 21) (.t 25) (.c (.bool false)), none⟩,
  ⟨(some 4), .mov (.t 26), none⟩] none)
 (.ret))
theorem fn22 : env0.fn 22 = some ⟨27, ic22, [.t 4]⟩ := by kernel_rfl
theorem zv3 (l : List Ex) (hlen : l.length < 9223372036854775808) (hsl : ∀ y ∈ l, Slim y) (n : Int) : PF Try.prog 22 [.agg [.vs (cXs l)], .int .i64 n] (.bool (zg0 l n)) := by
 have h11 := few11 l hlen hsl
 have h29 := gcheck29 l hsl n
 have hcl : (cXs l).length = l.length := zaj l
 refine zb1 env0_ok fn22 [(0, .agg [.vs (cXs l)]), (1, .int .i64 n)] (by show 2 ≤ 27; decide) rfl fun w0 N0 => ?_
 unfold ic22
 repeat (first | refine za5 ?_ | refine za0 rfl ?_ | refine za4 ?_ | refine za2 ?_ | refine za3 rfl ?_ | refine zcq rfl rfl ?_)
 refine zak rfl rfl rfl (fun h1 => ?_) fun h1 => ?_
 ·have h1 : n ≥ 1 := of_decide_eq_true h1
  repeat (first | refine zc8 rfl ?_ | refine za3 rfl ?_)
  refine zak rfl rfl rfl (fun h2 => ?_) fun h2 => ?_
  ·have h2 : n ≤ 4 := of_decide_eq_true h2
   repeat (first | refine zc8 rfl ?_ | refine za3 rfl ?_ | refine zag rfl rfl ?_ | refine zaa rfl ?_ | refine zai rfl rfl ?_ | refine zbk rfl rfl ?_)
   refine zak rfl rfl rfl (fun h3 => ?_) fun h3 => ?_
   ·have h3 : (((cXs l).length : Nat) : Int) ≤ 8 := of_decide_eq_true h3
    repeat (first | refine zc8 rfl ?_ | refine za3 rfl ?_ | refine zaw rfl rfl rfl rfl ?_ | refine zai rfl rfl ?_)
    refine zas rfl rfl h11 (fun h => Bool.noConfusion (show false = true from h)) ?_
    cases hf : fewB l with
    | true =>
     repeat (first | refine zc8 rfl ?_ | refine za3 rfl ?_ | refine zaw rfl rfl rfl rfl ?_ | refine zai rfl rfl ?_)
     refine zas rfl rfl h29 (fun h => Bool.noConfusion (show false = true from h)) ?_
     repeat (first | refine zc8 rfl ?_)
     refine zak rfl rfl rfl (fun h4 => ?_) fun h4 => ?_
     ·have h4 : zc5 l n = 0 := by simpa using h4
      rw [show zg0 l n = true from decide_eq_true ⟨h1, h2, by omega, hf, h4⟩]
      repeat (first | refine za4 ?_ | refine za2 ?_ | refine zaf ?_ | refine za3 rfl ?_ | refine zai rfl rfl ?_)
      exact zad ⟨.inr rfl, _, rfl, rfl⟩
     ·have h4 : zc5 l n ≠ 0 := by simpa using h4
      rw [show zg0 l n = false from decide_eq_false fun h => h4 h.2.2.2.2]
      repeat (first | refine za4 ?_ | refine za2 ?_ | refine zaf ?_ | refine za3 rfl ?_ | refine zai rfl rfl ?_)
      exact zad ⟨.inr rfl, _, rfl, rfl⟩
    | false =>
     rw [show zg0 l n = false from decide_eq_false fun h => by rw [hf] at h; exact Bool.noConfusion h.2.2.2.1]
     repeat (first | refine za4 ?_ | refine za2 ?_ | refine zaf ?_ | refine zdv rfl rfl ?_ | refine za3 rfl ?_ | refine zai rfl rfl ?_ | refine zac rfl rfl ?_)
     exact zad ⟨.inr rfl, _, rfl, rfl⟩
   ·have h3 : ¬ (((cXs l).length : Nat) : Int) ≤ 8 := of_decide_eq_false h3
    rw [show zg0 l n = false from decide_eq_false fun h => by omega]
    repeat (first | refine za4 ?_ | refine za2 ?_ | refine zaf ?_ | refine zdv rfl rfl ?_ | refine za3 rfl ?_ | refine zai rfl rfl ?_ | refine zac rfl rfl ?_)
    exact zad ⟨.inr rfl, _, rfl, rfl⟩
  ·have h2 : ¬ n ≤ 4 := of_decide_eq_false h2
   rw [show zg0 l n = false from decide_eq_false fun h => h2 h.2.1]
   repeat (first | refine za4 ?_ | refine za2 ?_ | refine zaf ?_ | refine zdv rfl rfl ?_ | refine za3 rfl ?_ | refine zai rfl rfl ?_ | refine zac rfl rfl ?_)
   exact zad ⟨.inr rfl, _, rfl, rfl⟩
 ·have h1 : ¬ n ≥ 1 := of_decide_eq_false h1
  rw [show zg0 l n = false from decide_eq_false fun h => h1 h.1]
  repeat (first | refine za4 ?_ | refine za2 ?_ | refine zaf ?_ | refine zdv rfl rfl ?_ | refine za3 rfl ?_ | refine zac rfl rfl ?_)
  exact zad ⟨.inr rfl, _, rfl, rfl⟩
end Go.Proofs.Ytoiblgbaeglgoaa
