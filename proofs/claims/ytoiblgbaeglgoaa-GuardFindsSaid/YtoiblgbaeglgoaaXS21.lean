/-
  THE LAW OF WHAT DANGER FINDS.
-/
import Derived.Test.YtoiblgbaeglgoaaXS20
namespace Go.Proofs.Ytoiblgbaeglgoaa
open Go Go.Am
set_option maxHeartbeats 4000000 in
theorem law4 (f : List Ex) (hlen : f.length < 9223372036854775808) (hsl : ∀ y ∈ f, Slim y) (n : Int) (l : List Sp) (hl : l.length < 9223372036854775808) : PF Try.prog 4 [.agg [.vs (cXs f)], .agg (cQ n l)] (.bool true) := by
 have hcl : (cPs l).length = l.length := zdb l
 have q1 : PF Try.prog 16 [.agg [.int .i64 n, .vs (cPs l)]] (.bool (fewS l)) := few12 n l hl
 have q2 := right22 f hlen hsl n
 have haw := awake17
 refine zbc env0_ok fn4 [(0, .agg [.vs (cXs f)]), (1, .agg [.int .i64 n, .vs (cPs l)])] (by show 2 ≤ 168; decide) rfl fun w0 N0 => ?_
 unfold ic4
 repeat (first | refine za6 ?_ | refine za0 rfl ?_ | refine za3 ?_ | refine za2 ?_ | refine za4 rfl ?_ | refine zas rfl rfl rfl rfl ?_ | refine zby rfl rfl ?_)
 refine zau rfl rfl q1 (fun h => Bool.noConfusion (show false = true from h)) ?_
 cases h1 : fewS l with
 | false =>
  repeat (first | refine za6 ?_ | refine za0 rfl ?_ | refine za3 ?_ | refine za2 ?_ | refine zb0 rfl ?_ | refine zda rfl rfl ?_ | refine za4 rfl ?_ | refine zap rfl rfl ?_ | refine zem rfl rfl ?_)
  refine zau rfl rfl haw (fun h => Bool.noConfusion (show false = true from h)) ?_
  repeat (first | refine za3 ?_ | refine za2 ?_ | refine zam ?_ | refine za5 ?_ | refine za4 rfl ?_)
  exact zak ⟨.inr rfl, _, rfl, rfl⟩
 | true =>
  obtain ⟨f1, f2⟩ := fewS_ok h1
  have q3 : PF Try.prog 21 [.agg [.int .i64 n, .vs (cPs l)]] (.int .i64 (zp4 n l)) := check21 n l (by omega) fun p hp => Nat.le_trans (f2 p hp) (by decide)
  repeat (first | refine zc5 rfl ?_ | refine za4 rfl ?_ | refine za8 rfl rfl ?_ | refine zac rfl ?_ | refine zem rfl rfl ?_ | refine zb9 rfl rfl ?_)
  try refine zc5 rfl ?_
  refine zar rfl rfl rfl (fun h2 => ?_) fun h2 => ?_
  ·repeat (first | refine za6 ?_ | refine za0 rfl ?_ | refine za3 ?_ | refine za2 ?_ | refine zb0 rfl ?_ | refine zda rfl rfl ?_ | refine za4 rfl ?_ | refine zap rfl rfl ?_ | refine zag rfl rfl ?_)
   refine zau rfl rfl haw (fun h => Bool.noConfusion (show false = true from h)) ?_
   repeat (first | refine za3 ?_ | refine za2 ?_ | refine zam ?_ | refine za5 ?_ | refine za4 rfl ?_)
   exact zak ⟨.inr rfl, _, rfl, rfl⟩
  repeat (first | refine zc5 rfl ?_ | refine za4 rfl ?_ | refine zas rfl rfl rfl rfl ?_ | refine zag rfl rfl ?_)
  try refine zc5 rfl ?_
  refine zau rfl rfl q3 (fun h => Bool.noConfusion (show false = true from h)) ?_
  repeat (first | refine zc5 rfl ?_)
  try refine zc5 rfl ?_
  refine zar rfl rfl rfl (fun h3 => ?_) fun h3 => ?_
  ·repeat (first | refine za6 ?_ | refine za0 rfl ?_ | refine za3 ?_ | refine za2 ?_ | refine zb0 rfl ?_ | refine zda rfl rfl ?_ | refine za4 rfl ?_ | refine zap rfl rfl ?_ | refine zag rfl rfl ?_)
   refine zau rfl rfl haw (fun h => Bool.noConfusion (show false = true from h)) ?_
   repeat (first | refine za3 ?_ | refine za2 ?_ | refine zam ?_ | refine za5 ?_ | refine za4 rfl ?_)
   exact zak ⟨.inr rfl, _, rfl, rfl⟩
  have h3 : zp4 n l = 0 := by simpa using h3
  repeat (first | refine zc5 rfl ?_ | refine za4 rfl ?_ | refine za8 rfl rfl ?_ | refine zas rfl rfl rfl rfl ?_ | refine zac rfl ?_ | refine zag rfl rfl ?_)
  try refine zc5 rfl ?_
  refine zau rfl rfl q2 (fun h => Bool.noConfusion (show false = true from h)) ?_
  cases h4 : zi1 f n with
  | false =>
   repeat (first | refine za6 ?_ | refine za0 rfl ?_ | refine za3 ?_ | refine za2 ?_ | refine zb0 rfl ?_ | refine zc5 rfl ?_ | refine zag rfl rfl ?_ | refine zem rfl rfl ?_)
   refine zau rfl rfl haw (fun h => Bool.noConfusion (show false = true from h)) ?_
   repeat (first | refine za3 ?_ | refine za2 ?_ | refine zam ?_ | refine za5 ?_ | refine za4 rfl ?_)
   exact zak ⟨.inr rfl, _, rfl, rfl⟩
  | true =>
   unfold zi1 at h4
   obtain ⟨r1, r2, r3, r4, hg⟩ := of_decide_eq_true h4
   have p1 := danger18 f hsl n l (by omega) fun _ => r2
   obtain ⟨m, rfl, ok⟩ := chk_ok h3
   have hT : dgT f (m : Int) l = dgS f 0 (List.replicate m false) l := (if_pos h3).trans ((if_pos hg).trans (by rw [Int.toNat_natCast]))
   have hC : dgC f (m : Int) l = 0 := (if_pos h3).trans hg
   unfold dgV at p1
   rw [hT, hC] at p1
   repeat (first | refine za6 ?_ | refine za0 rfl ?_ | refine za3 ?_ | refine za2 ?_ | refine zab ?_ | refine zb8 rfl ?_ | refine zc5 rfl ?_ | refine zas rfl rfl rfl rfl ?_ | refine zag rfl rfl ?_ | refine zem rfl rfl ?_)
   refine zau rfl rfl p1 (fun h => Bool.noConfusion (show false = true from h)) ?_
   repeat (first | refine za6 ?_ | refine za0 rfl ?_ | refine za3 ?_ | refine za2 ?_ | refine zab ?_ | refine zb8 rfl ?_ | refine za4 rfl ?_ | refine zbe rfl rfl ?_ | refine zbn rfl rfl rfl ?_)
   cases hb : (dgS f 0 (List.replicate m false) l).2.2 with
   | false =>
    clear p1 q1 q2 q3
    have e1 : IntKind.i64.wrap (((cPs l).length : Nat) + 1) = ((l.length + 1 : Nat) : Int) := by rw [hcl]; exact zaq _ (by omega)
    repeat (first | refine za6 ?_ | refine za0 rfl ?_ | refine za3 ?_ | refine za2 ?_ | refine zad ?_ | refine zab ?_ | refine zb8 rfl ?_ | refine za4 rfl ?_ | refine za8 rfl rfl ?_ | refine zac rfl ?_ | refine zb9 rfl rfl ?_ | refine zay (op := .add) rfl rfl rfl ?_)
    rw [e1]
    refine zs4 [] [(0, 0, [.vs (cXs f)]), (1, 1, [.int .i64 (m : Nat), .vs (cPs l)])] [(2, .vptr [.vs (cXs f)]), (3, .vptr [.int .i64 (m : Nat), .vs (cPs l)]), (4, .bool false), (134, .int .i64 (l.length + 1 : Nat)), (135, .int .i64 0)] rfl (.cons rfl rfl (.cons rfl rfl .nil)) .nil (.cons rfl (.fptr rfl rfl) (.cons rfl (.fptr rfl rfl) (.cons rfl (.same rfl) (.cons rfl (.same rfl) (.cons rfl (.same rfl) .nil))))) ?_
    refine safe4 f hsl m l ok hg hb ?_
    repeat (first | refine za6 ?_ | refine za0 rfl ?_)
    refine zau rfl rfl haw (fun h => Bool.noConfusion (show false = true from h)) ?_
    repeat (first | refine za3 ?_ | refine za2 ?_ | refine zam ?_ | refine za4 rfl ?_)
    exact zak ⟨.inr rfl, _, rfl, rfl⟩
   | true =>
    obtain ⟨kk, hk, e1, hq, hem⟩ := zr7 l 0 (List.replicate m false) hb
    rw [Nat.zero_add] at e1
    rw [List.length_replicate] at hq
    have hql := zjz _ _ hq
    rw [zdy] at hql
    rw [e1]
    clear p1 q1 q2 q3
    have m6 := ok.n6
    have hst := ok.step hk
    have hEl := SeqOk.behLen (n := m) (l := l) kk
    have p3 : PF Try.prog 23 [.agg [.int .i64 (m : Nat), .vs (cPs l)], .int .i64 (kk : Nat)] _ := zqv ok kk (by omega)
    have hpos : zvz (dgS f 0 (List.replicate m false) l).2.1 = 0 := zq3 fun i hi => by
     have := zjy hq i (by rw [zdy]; omega)
     rw [zit (by omega)] at this
     exact zwn this
    have p2 := zqo hsl hg hql hpos
    rw [hem] at p2
    have hbl := fun k Q y fin => belong4 (w0 := w0) (N0 := N0) (k := k) (Q := Q) f m l ok kk hk _ hq (y := y) fin
    generalize (dgS f 0 (List.replicate m false) l).2.1 = q at *
    have hcq : (q.map fun z => ([.int .i64 z] : List AV)).length = q.length := List.length_map ..
    repeat (first | refine za6 ?_ | refine za0 rfl ?_ | refine zb0 rfl ?_ | refine zc5 rfl ?_ | refine za4 rfl ?_ | refine za8 rfl rfl ?_ | refine zac rfl ?_ | refine zb9 rfl rfl ?_ | refine zbn rfl rfl rfl ?_)
    refine zar rfl rfl rfl (fun h => absurd (of_decide_eq_true h) (by rw [hcl]; omega)) fun _ => ?_
    repeat (first | refine zc5 rfl ?_ | refine za4 rfl ?_ | refine za8 rfl rfl ?_ | refine zac rfl ?_ | refine zag rfl rfl ?_ | refine zb9 rfl rfl ?_)
    try refine zc5 rfl ?_
    refine zar rfl rfl rfl (fun h => absurd (bne_iff_ne.1 h) (by rw [hcq, hql]; simp)) fun _ => ?_
    repeat (first | refine za6 ?_ | refine za0 rfl ?_ | refine za3 ?_ | refine za2 ?_ | refine zab ?_ | refine zb8 rfl ?_ | refine za4 rfl ?_ | refine zas rfl rfl rfl rfl ?_ | refine zag rfl rfl ?_)
    refine zau rfl rfl p3 (fun h => Bool.noConfusion (show false = true from h)) ?_
    repeat (first | refine za6 ?_ | refine za0 rfl ?_ | refine za3 ?_ | refine za2 ?_ | refine zad ?_ | refine za4 rfl ?_ | refine zb9 rfl rfl ?_)
    refine zs4 [] [(0, 0, [.vs (cXs f)]), (1, 1, [.int .i64 (m : Nat), .vs (cPs l)])] [(2, .vptr [.vs (cXs f)]), (3, .vptr [.int .i64 (m : Nat), .vs (cPs l)]), (4, .bool false), (5, .int .i64 (kk : Nat)), (6, vsI q), (9, vsB (zg7 (List.replicate m false) (l.take kk))), (74, vsI q), (75, .int .i64 (q.map fun z => ([.int .i64 z] : List AV)).length), (76, .int .i64 0)] rfl (.cons rfl rfl (.cons rfl rfl .nil)) .nil (.cons rfl (.fptr rfl rfl) (.cons rfl (.fptr rfl rfl) (.cons rfl (.same rfl) (.cons rfl (.same rfl) (.cons rfl (.same rfl) (.cons rfl (.same rfl) (.cons rfl (.same rfl) (.cons rfl (.same rfl) (.cons rfl (.same rfl) .nil))))))))) ?_
    refine hbl _ _ _ ?_
    repeat (first | refine za6 ?_ | refine za0 rfl ?_ | refine za4 rfl ?_ | refine zas rfl rfl rfl rfl ?_)
    refine zau rfl rfl p2 (fun h => Bool.noConfusion (show false = true from h)) ?_
    repeat (first | refine za6 ?_ | refine za0 rfl ?_ | refine za3 ?_ | refine za2 ?_ | refine zc5 rfl ?_ | refine za4 rfl ?_ | refine zap rfl rfl ?_ | refine zem rfl rfl ?_ | refine zbe rfl rfl ?_ | refine zbp rfl rfl rfl ?_)
    refine zau rfl rfl haw (fun h => Bool.noConfusion (show false = true from h)) ?_
    repeat (first | refine za3 ?_ | refine za2 ?_ | refine zam ?_ | refine za5 ?_ | refine za4 rfl ?_ | refine zap rfl rfl ?_)
    exact zak ⟨.inr rfl, _, rfl, rfl⟩
end Go.Proofs.Ytoiblgbaeglgoaa
