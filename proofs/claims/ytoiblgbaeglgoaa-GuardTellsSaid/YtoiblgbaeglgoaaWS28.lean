/-
  THE LAW OF WHAT IS TOLD: its walk.
-/
import Derived.Test.YtoiblgbaeglgoaaWS26
namespace Go.Proofs.Ytoiblgbaeglgoaa
open Go Go.Am
section
variable {w0 : World} {N0 : Nat} {k : List Fr} {Q : Exit → AS → Prop}
theorem inner5 (F G A B : AV) (hF : hasM F = false) (hG : hasM G = false) (hA : hasM A = false) (hB : hasM B = false) {m : Nat} (h1 : 1 ≤ m) (h4 : m ≤ 4) (kk : Nat) (hk : kk < 2 ^ m) {y : IC}
  (fin : Zm Try.prog w0 N0 none y (st 138 (b5 m F G A B kk [(13, .vptr [vsI (zb9 m kk)])]) [] 0 1) k Q) :
  Zm Try.prog w0 N0 none (.loop b5_2) (st 138 (b5 m F G A B kk [(13, .mptr 0 0 0), (63, .int .i64 (m : Nat)), (64, .int .i64 ((0 : Nat) : Int))]) [(0, 0, .cells [.ms 1 0 1 0 0 none]), (1, 0, .cells [])] 2 1) (.blk 2 :: .seq y :: k) Q := by
 rcases (show m = 1 ∨ m = 2 ∨ m = 3 ∨ m = 4 by omega) with rfl | rfl | rfl | rfl
 ·exact inner1 F G A B hF hG hA hB kk hk fin
 ·exact inner2 F G A B hF hG hA hB kk hk fin
 ·exact inner3 F G A B hF hG hA hB kk hk fin
 ·exact inner4 F G A B hF hG hA hB kk hk fin
theorem shl5 {m : Nat} (h1 : 1 ≤ m) (h4 : m ≤ 4) : Am.binOp .shl (.int .i64 1) (.int .i64 (m : Nat)) = some (.int .i64 ((2 ^ m : Nat) : Int)) := by
 rcases (show m = 1 ∨ m = 2 ∨ m = 3 ∨ m = 4 by omega) with rfl | rfl | rfl | rfl <;> rfl
structure Tell (f w : List Ex) (m : Nat) : Prop where
 m1 : 1 ≤ m
 m4 : m ≤ 4
 sf : ∀ y ∈ f, Slim y
 sw : ∀ y ∈ w, Slim y
 gf : zc5 f m = 0
 gw : zc5 w m = 0
 mo : ∀ q, (zek w q).isEmpty = true → (zek f q).isEmpty = true
set_option maxHeartbeats 4000000 in
theorem tells5 {f w : List Ex} {m : Nat} (t : Tell f w m) {y : IC}
  (fin : Zm Try.prog w0 N0 none y (st 138 [(6, .bool false), (8, css (zb3 f m))] [] 0 1) k Q) :
  Zm Try.prog w0 N0 none (.loop b5_0) (st 138 [(1, .int .i64 (m : Nat)), (3, .vptr [.vs (cXs f)]), (6, .bool false), (7, .vptr [.vs (cXs w)]), (8, css (zb3 f m)), (10, css (zb3 w m)), (59, .int .i64 (2 ^ m : Nat)), (60, .int .i64 0)] [] 0 1) (.blk 0 :: .seq y :: k) Q := by
 obtain ⟨m1, m4, sf, sw, gf, gw, mo⟩ := t
 have h16 : 2 ^ m ≤ 16 := Nat.pow_le_pow_right (by decide) m4
 refine zcj (fun mm S => ∃ i, mm = 2 ^ m - i ∧ i ≤ 2 ^ m ∧ S = st 138 [(1, .int .i64 (m : Nat)), (3, .vptr [.vs (cXs f)]), (6, .bool false), (7, .vptr [.vs (cXs w)]), (8, css (zb3 f m)), (10, css (zb3 w m)), (59, .int .i64 (2 ^ m : Nat)), (60, .int .i64 (i : Nat))] [] 0 1) (2 ^ m)
  (zam (.cons rfl (.cons rfl (.cons rfl (.cons rfl (.cons rfl (.cons rfl (.cons rfl (.cons rfl .nil))))))))) ⟨0, rfl, Nat.zero_le _, rfl⟩ ?_
 rintro mm S ⟨i, rfl, hi, rfl⟩
 unfold b5_0
 repeat (first | refine za5 ?_ | refine za0 rfl ?_)
 refine zak rfl rfl rfl (fun h3 => ?_) fun h3 => ?_
 ·have hlt : i < 2 ^ m := by
   have : ((i : Nat) : Int) < (2 ^ m : Nat) := of_decide_eq_true h3
   exact Int.ofNat_lt.1 this
  obtain ⟨hE, hp⟩ := zsw m (by simp; omega) i (List.mem_range.2 (by omega)) hlt
  have hl := zsx m i
  repeat (first | refine za5 ?_ | refine za0 rfl ?_ | refine za4 ?_ | refine za2 ?_ | refine zae ?_ | refine zab ?_ | refine zb6 rfl ?_ | refine za3 rfl ?_ | refine zbl ?_)
  refine zes [(some (0, 1), [.ms 1 0 1 0 0 none]), (none, [])] [] (b5 m (.vptr [.vs (cXs f)]) (.vptr [.vs (cXs w)]) (css (zb3 f m)) (css (zb3 w m)) i [(13, .mptr 0 0 0), (63, .int .i64 (m : Nat)), (64, .int .i64 ((0 : Nat) : Int))]) rfl .nil (.cons rfl (.cons (.grow rfl) .nil) (.new .nil)) (rb5 rfl rfl rfl rfl rfl rfl rfl rfl rfl rfl rfl rfl rfl (.cons rfl (.mptr rfl) (.cons rfl (.same rfl) (.cons rfl (.same rfl) .nil)))) ?_
  refine inner5 (.vptr [.vs (cXs f)]) (.vptr [.vs (cXs w)]) (css (zb3 f m)) (css (zb3 w m)) rfl rfl rfl rfl m1 m4 i hlt ?_
  have p1 := zpm sf gf hl hp
  have p2 := zpm sw gw hl hp
  have p3 := zvw f sf (zb9 m i)
  rw [zr5, if_pos (by unfold posC; rw [hl, if_pos gf]; exact hp)] at p3
  have p4 := zk6 (zb3 f m) (zd6 m4).1 (zd6 m4).2 (zb9 m i)
  have p5' := zk6 (zb3 w m) (zd6 m4).1 (zd6 m4).2 (zb9 m i)
  rw [znz hE] at p4 p5'
  have hmo := mo (zb9 m i)
  have hem := zvr (f := f) (p := zb9 m i)
  generalize zb9 m i = E at *
  have hb : ∀ (r : List (Nat × AV)), b5 m (.vptr [.vs (cXs f)]) (.vptr [.vs (cXs w)]) (css (zb3 f m)) (css (zb3 w m)) i r = (1, .int .i64 (m : Nat)) :: (3, .vptr [.vs (cXs f)]) :: (6, .bool false) :: (7, .vptr [.vs (cXs w)]) :: (8, css (zb3 f m)) :: (10, css (zb3 w m)) :: (59, .int .i64 (2 ^ m : Nat)) :: (60, .int .i64 (i : Nat)) :: (12, .int .i64 (i : Nat)) :: r := fun _ => rfl
  rw [hb]
  repeat (first | refine za5 ?_ | refine za0 rfl ?_ | refine zag rfl rfl ?_ | refine zaw rfl rfl rfl rfl ?_)
  refine zas rfl rfl p1 (fun h => Bool.noConfusion (show false = true from h)) ?_
  repeat (first | refine za5 ?_ | refine za0 rfl ?_ | refine za4 ?_ | refine za2 ?_ | refine za3 rfl ?_ | refine zag rfl rfl ?_ | refine zaw rfl rfl rfl rfl ?_ | refine zbg rfl rfl ?_)
  refine zas rfl rfl p3 (fun h => Bool.noConfusion (show false = true from h)) ?_
  repeat (first | refine za5 ?_ | refine za0 rfl ?_ | refine za4 ?_ | refine za2 ?_ | refine za3 rfl ?_ | refine zag rfl rfl ?_ | refine zaw rfl rfl rfl rfl ?_ | refine zbg rfl rfl ?_)
  refine zas rfl rfl p2 (fun h => Bool.noConfusion (show false = true from h)) ?_
  cases ha : (zek f E).isEmpty with
  | true =>
   rw [ha] at hem p4
   cases hb2 : (zek w E).isEmpty
   all_goals
    rw [hb2] at p5'
    repeat (first | refine za5 ?_ | refine za0 rfl ?_ | refine za4 ?_ | refine za2 ?_ | refine zc8 rfl ?_ | refine za3 rfl ?_ | refine zbk rfl rfl ?_ | refine zf4 rfl rfl ?_ | refine zbg rfl rfl ?_ | refine zao (op := .add) rfl rfl rfl ?_ | refine zbt rfl rfl rfl ?_)
    try refine zc8 rfl ?_
    refine zak rfl rfl rfl (fun _ => ?_) fun h => absurd (of_decide_eq_true hem) (by simpa using h)
    repeat (first | refine zc8 rfl ?_ | refine za3 rfl ?_ | refine zac rfl rfl ?_ | refine zff rfl rfl rfl ?_)
    try refine zc8 rfl ?_
    refine zas rfl rfl p4 (fun h => Bool.noConfusion (show false = true from h)) ?_
    repeat (first | refine zc8 rfl ?_ | refine za3 rfl ?_ | refine zac rfl rfl ?_ | refine zff rfl rfl rfl ?_)
    try refine zc8 rfl ?_
    refine zas rfl rfl p5' (fun h => Bool.noConfusion (show false = true from h)) ?_
    repeat (first | refine za0 rfl ?_ | refine za4 ?_ | refine za2 ?_ | refine zbe ?_ | refine zab ?_ | refine zbi rfl ?_ | refine zc8 rfl ?_ | refine zdv rfl rfl ?_ | refine za3 rfl ?_ | refine zai rfl rfl ?_ | refine zac rfl rfl ?_ | refine zi1 rfl rfl ?_ | refine zao (op := .add) rfl rfl rfl ?_ | refine zff rfl rfl rfl ?_)
    rw [zb2 i (by omega)]
    exact zaz (show 2 ^ m - (i + 1) < 2 ^ m - i by omega) (zam (.cons rfl (.cons rfl (.cons rfl (.cons rfl (.cons rfl (.cons rfl (.cons rfl (.cons rfl .nil))))))))) ⟨i + 1, rfl, hlt, rfl⟩
  | false =>
   rw [ha] at hem p4
   have hb2 : (zek w E).isEmpty = false := by
    cases h : (zek w E).isEmpty with
    | false => rfl
    | true => have := hmo h; rw [ha] at this; exact Bool.noConfusion this
   rw [hb2] at p5' ⊢
   repeat (first | refine za5 ?_ | refine za0 rfl ?_ | refine za4 ?_ | refine za2 ?_ | refine zc8 rfl ?_ | refine za3 rfl ?_ | refine zbk rfl rfl ?_ | refine zf4 rfl rfl ?_ | refine zbg rfl rfl ?_ | refine zao (op := .add) rfl rfl rfl ?_ | refine zbt rfl rfl rfl ?_)
   try refine zc8 rfl ?_
   refine zak rfl rfl rfl (fun h => absurd (by simpa using h) (of_decide_eq_false hem)) fun _ => ?_
   repeat (first | refine zc8 rfl ?_ | refine za3 rfl ?_ | refine zac rfl rfl ?_ | refine zff rfl rfl rfl ?_)
   try refine zc8 rfl ?_
   refine zas rfl rfl p4 (fun h => Bool.noConfusion (show false = true from h)) ?_
   repeat (first | refine zc8 rfl ?_ | refine za3 rfl ?_ | refine zac rfl rfl ?_ | refine zff rfl rfl rfl ?_)
   try refine zc8 rfl ?_
   refine zas rfl rfl p5' (fun h => Bool.noConfusion (show false = true from h)) ?_
   repeat (first | refine za0 rfl ?_ | refine za4 ?_ | refine za2 ?_ | refine zbe ?_ | refine zab ?_ | refine zbi rfl ?_ | refine zc8 rfl ?_ | refine zdv rfl rfl ?_ | refine za3 rfl ?_ | refine zac rfl rfl ?_ | refine zao (op := .add) rfl rfl rfl ?_ | refine zff rfl rfl rfl ?_)
   rw [zb2 i (by omega)]
   exact zaz (show 2 ^ m - (i + 1) < 2 ^ m - i by omega) (zam (.cons rfl (.cons rfl (.cons rfl (.cons rfl (.cons rfl (.cons rfl (.cons rfl (.cons rfl .nil))))))))) ⟨i + 1, rfl, hlt, rfl⟩
 ·repeat (first | refine za5 ?_ | refine za4 ?_ | refine za2 ?_ | refine zbi rfl ?_ | refine zc0 ?_ | refine zan ?_)
  refine zdk ?_
  repeat (first | refine za2 ?_ | refine zby ?_)
  exact zk0 (zam (.cons rfl (.cons rfl .nil))) fin
end
end Go.Proofs.Ytoiblgbaeglgoaa
