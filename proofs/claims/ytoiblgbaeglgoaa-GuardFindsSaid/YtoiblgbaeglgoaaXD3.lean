/-
  RIGHT GUARDS; POSITIONS OF STEPS, in plain Lean.
-/
import Derived.Test.YtoiblgbaeglgoaaXS17
import Derived.Test.YtoiblgbaeglgoaaXQD
namespace Go.Proofs.Ytoiblgbaeglgoaa
open Go Go.Am
def zi1 (l : List Ex) (n : Int) : Bool := decide (1 ≤ n ∧ n ≤ 4 ∧ l.length ≤ 8 ∧ fewB l = true ∧ zdd l n = 0)
-- pneumatic/pneumaticlaw49.right
def ic22 : IC := .seq (.region [⟨(some 2), .box (.t 0), none⟩,
  ⟨(some 4), .mov (.c (.bool false)), none⟩] none)
 (.seq (.region [⟨(some 5), .mov (.t 1), none⟩,
  ⟨(some 6), .bin .geq (.t 5) (.c (.int .i64 1)), none⟩,
  ⟨(some 7), .mov (.t 6), none⟩,
  ⟨(some 8), .mov (.t 1), some (7, true)⟩,
  ⟨(some 9), .bin .leq (.t 8) (.c (.int .i64 4)), some (7, true)⟩,
  ⟨(some 10), .pick (.t 7) (.t 9) (.c (.bool false)), none⟩,
  ⟨(some 11), .mov (.t 10), none⟩,
  ⟨(some 12), .faddr 0 (.t 2), some (11, true)⟩,
  ⟨(some 13), .load none (.t 12), some (11, true)⟩,
  ⟨(some 14), .len false (.t 13), some (11, true)⟩,
  ⟨(some 15), .bin .leq (.t 14) (.c (.int .i64 8)), some (11, true)⟩,
  ⟨(some 16), .pick (.t 11) (.t 15) (.c (.bool false)), none⟩,
  ⟨(some 17), .mov (.t 16), none⟩,
  ⟨(some 18), .load (some 1) (.t 2), some (17, true)⟩,
  ⟨(some 19), .call (.c (.fn 15 [] [])) [(.t 18)], some (17, true)⟩,
  ⟨(some 20), .pick (.t 17) (.t 19) (.c (.bool false)), none⟩,
  ⟨(some 21), .mov (.t 20), none⟩,
  ⟨(some 22), .load (some 1) (.t 2), some (21, true)⟩,
  ⟨(some 23), .mov (.t 1), some (21, true)⟩,
  ⟨(some 24), .call (.c (.fn 67 [] [])) [(.t 22), (.t 23)], some (21, true)⟩,
  ⟨(some 25), .bin .eql (.t 24) (.c (.int .i64 0)), some (21, true)⟩,
  ⟨(some 26), .pick (.t 21) (.t 25) (.c (.bool false)), none⟩,
  ⟨(some 4), .mov (.t 26), none⟩] none)
 (.ret))
theorem fn22 : env0.fn 22 = some ⟨27, ic22, [.t 4]⟩ := by kernel_rfl
theorem right22 (l : List Ex) (hlen : l.length < 9223372036854775808) (hsl : ∀ y ∈ l, Slim y) (n : Int) : PF Try.prog 22 [.agg [.vs (cXs l)], .int .i64 n] (.bool (zi1 l n)) := by
 have h11 := few11 l hlen hsl
 have h29 := gcheck29 l hsl n
 have hcl : (cXs l).length = l.length := zb3 l
 refine zbc env0_ok fn22 [(0, .agg [.vs (cXs l)]), (1, .int .i64 n)] (by show 2 ≤ 27; decide) rfl fun w0 N0 => ?_
 unfold ic22
 repeat (first | refine za6 ?_ | refine za0 rfl ?_ | refine za3 ?_ | refine za2 ?_ | refine za4 rfl ?_ | refine zby rfl rfl ?_)
 refine zar rfl rfl rfl (fun h1 => ?_) fun h1 => ?_
 ·have h1 : n ≥ 1 := of_decide_eq_true h1
  repeat (first | refine zc5 rfl ?_ | refine za4 rfl ?_)
  refine zar rfl rfl rfl (fun h2 => ?_) fun h2 => ?_
  ·have h2 : n ≤ 4 := of_decide_eq_true h2
   repeat (first | refine zc5 rfl ?_ | refine za4 rfl ?_ | refine za8 rfl rfl ?_ | refine zac rfl ?_ | refine zap rfl rfl ?_ | refine zb9 rfl rfl ?_)
   refine zar rfl rfl rfl (fun h3 => ?_) fun h3 => ?_
   ·have h3 : (((cXs l).length : Nat) : Int) ≤ 8 := of_decide_eq_true h3
    repeat (first | refine zc5 rfl ?_ | refine za4 rfl ?_ | refine zas rfl rfl rfl rfl ?_ | refine zap rfl rfl ?_)
    refine zau rfl rfl h11 (fun h => Bool.noConfusion (show false = true from h)) ?_
    cases hf : fewB l with
    | true =>
     repeat (first | refine zc5 rfl ?_ | refine za4 rfl ?_ | refine zas rfl rfl rfl rfl ?_ | refine zap rfl rfl ?_)
     refine zau rfl rfl h29 (fun h => Bool.noConfusion (show false = true from h)) ?_
     repeat (first | refine zc5 rfl ?_)
     refine zar rfl rfl rfl (fun h4 => ?_) fun h4 => ?_
     ·have h4 : zdd l n = 0 := by simpa using h4
      rw [show zi1 l n = true from decide_eq_true ⟨h1, h2, by omega, hf, h4⟩]
      repeat (first | refine za3 ?_ | refine za2 ?_ | refine zam ?_ | refine za4 rfl ?_ | refine zap rfl rfl ?_)
      exact zak ⟨.inr rfl, _, rfl, rfl⟩
     ·have h4 : zdd l n ≠ 0 := by simpa using h4
      rw [show zi1 l n = false from decide_eq_false fun h => h4 h.2.2.2.2]
      repeat (first | refine za3 ?_ | refine za2 ?_ | refine zam ?_ | refine za4 rfl ?_ | refine zap rfl rfl ?_)
      exact zak ⟨.inr rfl, _, rfl, rfl⟩
    | false =>
     rw [show zi1 l n = false from decide_eq_false fun h => by rw [hf] at h; exact Bool.noConfusion h.2.2.2.1]
     repeat (first | refine za3 ?_ | refine za2 ?_ | refine zam ?_ | refine zda rfl rfl ?_ | refine za4 rfl ?_ | refine zap rfl rfl ?_ | refine zag rfl rfl ?_)
     exact zak ⟨.inr rfl, _, rfl, rfl⟩
   ·have h3 : ¬ (((cXs l).length : Nat) : Int) ≤ 8 := of_decide_eq_false h3
    rw [show zi1 l n = false from decide_eq_false fun h => by omega]
    repeat (first | refine za3 ?_ | refine za2 ?_ | refine zam ?_ | refine zda rfl rfl ?_ | refine za4 rfl ?_ | refine zap rfl rfl ?_ | refine zag rfl rfl ?_)
    exact zak ⟨.inr rfl, _, rfl, rfl⟩
  ·have h2 : ¬ n ≤ 4 := of_decide_eq_false h2
   rw [show zi1 l n = false from decide_eq_false fun h => h2 h.2.1]
   repeat (first | refine za3 ?_ | refine za2 ?_ | refine zam ?_ | refine zda rfl rfl ?_ | refine za4 rfl ?_ | refine zap rfl rfl ?_ | refine zag rfl rfl ?_)
   exact zak ⟨.inr rfl, _, rfl, rfl⟩
 ·have h1 : ¬ n ≥ 1 := of_decide_eq_false h1
  rw [show zi1 l n = false from decide_eq_false fun h => h1 h.1]
  repeat (first | refine za3 ?_ | refine za2 ?_ | refine zam ?_ | refine zda rfl rfl ?_ | refine za4 rfl ?_ | refine zag rfl rfl ?_)
  exact zak ⟨.inr rfl, _, rfl, rfl⟩
theorem zjy : ∀ {cs : List (List Int)} {q : List Int}, q ∈ zdr cs → ∀ i, i < cs.length → q.getD i 0 ∈ cs.getD i []
 | [], _, _, i, h => absurd h (Nat.not_lt_zero i)
 | c :: cs, q, hq, i, hi => by
  rw [zdr, List.mem_flatMap] at hq
  obtain ⟨x, hx, hq⟩ := hq
  obtain ⟨p, hp, rfl⟩ := List.mem_map.1 hq
  cases i with
  | zero => exact hx
  | succ i => exact zjy hp i (by rw [List.length_cons] at hi; omega)
theorem zr3 : ∀ {cs : List (List Int)} {q : List Int}, q.length = cs.length → (∀ i, i < cs.length → q.getD i 0 ∈ cs.getD i []) → q ∈ zdr cs
 | [], q, h, _ => by
  have : q = [] := List.length_eq_zero_iff.1 h
  rw [this, zdr]
  exact List.mem_singleton.2 rfl
 | c :: cs, [], h, _ => by simp at h
 | c :: cs, x :: q, h, hm => by
  rw [zdr, List.mem_flatMap]
  exact ⟨x, hm 0 (Nat.zero_lt_succ _), List.mem_map.2 ⟨q, zr3 (by simpa using h) fun i hi => hm (i + 1) (by rw [List.length_cons]; omega), rfl⟩⟩
theorem zit {E F : List Bool} {l : List Sk} {n i : Nat} (h : i < n) : (zey E F l n).getD i [] = zj3 E F l i := by
 rw [List.getD_eq_getElem?_getD, List.getElem?_eq_getElem (by rw [zdy]; exact h), Option.getD_some, zoy]
theorem zq3 : ∀ {q : List Int}, (∀ i, i < q.length → 0 ≤ q.getD i 0 ∧ q.getD i 0 < 4) → zvz q = 0
 | [], _ => rfl
 | z :: zs, h => by
  have h0 : 0 ≤ z ∧ z < 4 := h 0 (Nat.zero_lt_succ _)
  rw [zvz, if_neg (by omega)]
  exact zq3 fun i hi => h (i + 1) (by rw [List.length_cons]; omega)
theorem zlf (b : Bool) : zgm b = 0 ∨ zgm b = 2 := by cases b <;> simp [zgm]
theorem zwn {E F : List Bool} {l : List Sk} {i : Nat} {v : Int} (h : v ∈ zj3 E F l i) : 0 ≤ v ∧ v < 4 := by
 unfold zj3 at h
 split at h
 ·simp at h; omega
 split at h
 ·simp at h; omega
 ·have := zlf (E.getD i false && F.getD i false)
  rw [List.mem_singleton.1 h]
  omega
theorem stat_way {n : Int} {E : List Bool} {p : Sp} (h : StpOk n E p) (hE : (E.length : Int) = n) {i : Nat} {v : Int} (hv : v ∈ zj3 E (aft E p.l) p.l i) :
  (zg4 (i : Nat) p.l = 0 ∧ v = zgm (E.getD i false)) ∨ (zg4 (i : Nat) p.l = 1 ∧ v ≠ 3) ∨ (zg4 (i : Nat) p.l = -1 ∧ v ≠ 1) := by
 have h0 : ∀ s ∈ p.l, 0 ≤ s.a := fun s hs => (h.acts hE s hs).1
 unfold zj3 at hv
 rcases zjk (i := i) h0 h.su with ⟨e, _⟩ | ⟨e, _⟩ | e
 ·rw [if_pos e] at hv
  exact .inr (.inl ⟨e, by simp at hv; omega⟩)
 ·rw [if_neg (by omega), if_pos e] at hv
  exact .inr (.inr ⟨e, by simp at hv; omega⟩)
 ·rw [if_neg (by omega), if_neg (by omega), zhf p.l E h0 e, Bool.and_self] at hv
  exact .inl ⟨e, by simpa using hv⟩
theorem zk2 (E : List Bool) : (enE E).length = E.length := List.length_map ..
theorem zuq {E : List Bool} {i : Nat} (h : i < E.length) : (enE E).getD i 0 = zgm (E.getD i false) := by
 unfold enE
 rw [List.getD_eq_getElem?_getD, List.getElem?_map, List.getElem?_eq_getElem h, List.getD_eq_getElem?_getD, List.getElem?_eq_getElem h]
 rfl
theorem posL_enE (E : List Bool) : zvz (enE E) = 0 := zq3 fun i hi => by
 rw [zuq (by rwa [zk2] at hi)]
 have := zlf (E.getD i false)
 omega
theorem zur {n : Int} {E : List Bool} {p : Sp} (h : StpOk n E p) (hE : (E.length : Int) = n) : enE E ∈ zdr (zey E (aft E p.l) p.l E.length) := by
 have h0 : ∀ s ∈ p.l, 0 ≤ s.a := fun s hs => (h.acts hE s hs).1
 refine zr3 (by rw [zk2, zdy]) fun i hi => ?_
 rw [zdy] at hi
 rw [zit hi, zuq hi]
 unfold zj3
 rcases zjk (i := i) h0 h.su with ⟨e, e2⟩ | ⟨e, e2⟩ | e
 ·rw [if_pos e, e2]; simp [zgm]
 ·rw [if_neg (by omega), if_pos e, e2]; simp [zgm]
 ·rw [if_neg (by omega), if_neg (by omega), zhf p.l E h0 e, Bool.and_self]; simp
theorem zwd {f : List Ex} {n : Nat} {l : List Sp} (ok : SeqOk n l) (hs : (dgS f 0 (List.replicate n false) l).2.2 = false) {k : Nat} (hk : k ≤ l.length) : (zgi f (enE (zg7 (List.replicate n false) (l.take k)))).isEmpty = true := by
 have key : ∀ i (h : i < l.length), (zgi f (enE (zg7 (List.replicate n false) (l.take i)))).isEmpty = true := fun i h => by
  have hl := SeqOk.behLen (n := n) (l := l) i
  have := zur (ok.step h) (by rw [hl])
  rw [hl] at this
  refine zr6 l 0 (List.replicate n false) hs i h _ ?_
  rw [List.length_replicate]
  exact this
 by_cases h : k < l.length
 ·exact key k h
 ·have hk : k = l.length := by omega
  have hl0 := ok.l0
  subst hk
  rw [List.take_length, ok.last]
  have := key 0 (by omega)
  exact this
end Go.Proofs.Ytoiblgbaeglgoaa
