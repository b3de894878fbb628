/-
  THE LAW OF DANGERS: its walk; reading a sequence.
-/
import Derived.Test.YtoiblgbaeglgoaaYS17
import Derived.Test.YtoiblgbaeglgoaaYT2
import Derived.Test.YtoiblgbaeglgoaaYBase
namespace Go.Proofs.Ytoiblgbaeglgoaa
open Go Go.Am
theorem awake17 : PF Try.prog 17 [] (.bool true) := tabA_ok _ (List.mem_cons_self ..) _ (List.mem_cons_self ..)
theorem zv2 (f : List Ex) (n : Int) (l : List Sp) : (dgT f n l).2.1.length ≤ 6 := by
 unfold dgT
 split
 ·rename_i h
  split
  ·obtain ⟨m, rfl, ok⟩ := zrd h
   have := dgS_len (f := f) l 0 (List.replicate ((m : Nat) : Int).toNat false)
   rw [List.length_replicate, Int.toNat_natCast] at this
   have := ok.n6
   rw [Int.toNat_natCast]
   omega
  ·exact Nat.zero_le _
 ·exact Nat.zero_le _
theorem zv9 {l : List Sp} (h : fewS l = true) : l.length ≤ 128 ∧ ∀ p ∈ l, p.l.length ≤ 40 := by
 unfold fewS at h
 rw [Bool.and_eq_true, decide_eq_true_eq, List.all_eq_true] at h
 exact ⟨h.1, fun p hp => of_decide_eq_true (h.2 p hp)⟩
theorem chk_n {n : Int} {l : List Sp} (h : zla n l = 0) : n ≤ 6 := by
 obtain ⟨m, rfl, ok⟩ := zrd h
 have := ok.n6
 omega
-- pneumatic/pneumaticlaw49.GuardDangers
def ic3 : IC := .seq (.region [⟨(some 2), .box (.t 0), none⟩,
  ⟨(some 3), .box (.t 1), none⟩,
  ⟨(some 4), .mov (.c (.bool false)), none⟩] none)
 (.seq (.seq (.region [⟨(some 13), .load (some 1) (.t 2), none⟩,
  ⟨(some 14), .call (.c (.fn 15 [] [])) [(.t 13)], none⟩,
  ⟨(some 15), .un .not (.t 14), none⟩,
  ⟨(some 16), .mov (.t 15), none⟩,
  ⟨(some 17), .load (some 2) (.t 3), some (16, false)⟩,
  ⟨(some 18), .call (.c (.fn 16 [] [])) [(.t 17)], some (16, false)⟩,
  ⟨(some 19), .un .not (.t 18), some (16, false)⟩,
  ⟨(some 20), .pick (.t 16) (.c (.bool true)) (.t 19), none⟩,
  ⟨(some 21), .mov (.t 20), none⟩,
  ⟨(some 22), .faddr 1 (.t 3), some (21, false)⟩,
  ⟨(some 23), .load none (.t 22), some (21, false)⟩,
  ⟨(some 24), .len false (.t 23), some (21, false)⟩,
  ⟨(some 25), .bin .gtr (.t 24) (.c (.int .i64 12)), some (21, false)⟩,
  ⟨(some 26), .pick (.t 21) (.c (.bool true)) (.t 25), none⟩,
  ⟨(some 27), .mov (.t 26), none⟩,
  ⟨(some 28), .faddr 0 (.t 3), some (27, false)⟩,
  ⟨(some 29), .load none (.t 28), some (27, false)⟩,
  ⟨(some 30), .bin .gtr (.t 29) (.c (.int .i64 4)), some (27, false)⟩,
  ⟨(some 31), .mov (.t 30), some (27, false)⟩,
  ⟨(some 32), .faddr 0 (.t 3), some (31, true)⟩,
  ⟨(some 33), .load none (.t 32), some (31, true)⟩,
  ⟨(some 34), .bin .leq (.t 33) (.c (.int .i64 6)), some (31, true)⟩,
  ⟨(some 35), .pick (.t 31) (.t 34) (.c (.bool false)), some (27, false)⟩,
  ⟨(some 36), .pick (.t 27) (.c (.bool true)) (.t 35), none⟩] none)
 (.cond (.t 36) (.seq (.region [⟨(some 37), .call (.c (.fn 17 [] [])) [], none⟩,
  ⟨(some 4), .mov (.t 37), none⟩] none)
 (.ret))
 (.skip)))
 (.seq (.region [⟨(some 39), .load (some 1) (.t 2), none⟩,
  ⟨(some 40), .load (some 2) (.t 3), none⟩,
  ⟨(some 41), .call (.c (.fn 18 [] [])) [(.t 39), (.t 40)], none⟩,
  ⟨(some 38), .mov (.t 41), none⟩,
  ⟨(some 42), .extract (.t 38) 0, none⟩,
  ⟨(some 43), .extract (.t 38) 1, none⟩,
  ⟨(some 44), .extract (.t 38) 2, none⟩,
  ⟨(some 45), .extract (.t 38) 3, none⟩,
  ⟨(some 5), .mov (.t 42), none⟩,
  ⟨(some 6), .mov (.t 43), none⟩,
  ⟨(some 7), .mov (.t 44), none⟩,
  ⟨(some 8), .mov (.t 45), none⟩] none)
 (.seq (.region [⟨(some 47), .load (some 1) (.t 2), none⟩,
  ⟨(some 48), .load (some 2) (.t 3), none⟩,
  ⟨(some 49), .call (.c (.fn 19 [] [])) [(.t 47), (.t 48)], none⟩,
  ⟨(some 46), .mov (.t 49), none⟩,
  ⟨(some 50), .extract (.t 46) 0, none⟩,
  ⟨(some 51), .extract (.t 46) 1, none⟩,
  ⟨(some 52), .extract (.t 46) 2, none⟩,
  ⟨(some 53), .extract (.t 46) 3, none⟩,
  ⟨(some 9), .mov (.t 50), none⟩,
  ⟨(some 10), .mov (.t 51), none⟩,
  ⟨(some 11), .mov (.t 52), none⟩,
  ⟨(some 12), .mov (.t 53), none⟩] none)
 (.seq (.region [⟨(some 54), .mov (.t 5), none⟩,
  ⟨(some 55), .mov (.t 9), none⟩,
  ⟨(some 56), .bin .eql (.t 54) (.t 55), none⟩,
  ⟨(some 57), .mov (.t 56), none⟩,
  ⟨(some 58), .mov (.t 6), some (57, true)⟩,
  ⟨(some 59), .mov (.t 10), some (57, true)⟩,
  ⟨(some 60), .call (.c (.fn 20 [] [])) [(.t 58), (.t 59)], some (57, true)⟩,
  ⟨(some 61), .pick (.t 57) (.t 60) (.c (.bool false)), none⟩,
  ⟨(some 62), .mov (.t 61), none⟩,
  ⟨(some 63), .mov (.t 7), some (62, true)⟩,
  ⟨(some 64), .mov (.t 11), some (62, true)⟩,
  ⟨(some 65), .eqb false (.t 63) (.t 64), some (62, true)⟩,
  ⟨(some 66), .pick (.t 62) (.t 65) (.c (.bool false)), none⟩,
  ⟨(some 67), .mov (.t 66), none⟩,
  ⟨(some 68), .mov (.t 8), some (67, true)⟩,
  ⟨(some 69), .mov (.t 12), some (67, true)⟩,
  ⟨(some 70), .bin .eql (.t 68) (.t 69), some (67, true)⟩,
  ⟨(some 71), .pick (.t 67) (.t 70) (.c (.bool false)), none⟩,
  ⟨(some 72), .mov (.t 71), none⟩,
  ⟨(some 73), .call (.c (.fn 17 [] [])) [], some (72, true)⟩,
  ⟨(some 74), .pick (.t 72) (.t 73) (.c (.bool false)), none⟩,
  ⟨(some 4), .mov (.t 74), none⟩] none)
 (.ret)))))
theorem fn3 : env0.fn 3 = some ⟨75, ic3, [.t 4]⟩ := by kernel_rfl
set_option maxHeartbeats 4000000 in
theorem law3 (f : List Ex) (hlen : f.length < 9223372036854775808) (hsl : ∀ y ∈ f, Slim y) (n : Int) (l : List Sp) (hl : l.length < 9223372036854775808) : PF Try.prog 3 [.agg [.vs (cXs f)], .agg (cQ n l)] (.bool true) := by
 have hcl : (cPs l).length = l.length := zd0 l
 have q1 := few11 f hlen hsl
 have q2 : PF Try.prog 16 [.agg [.int .i64 n, .vs (cPs l)]] (.bool (fewS l)) := few12 n l hl
 have haw := awake17
 refine zbb env0_ok fn3 [(0, .agg [.vs (cXs f)]), (1, .agg [.int .i64 n, .vs (cPs l)])] (by show 2 ≤ 75; decide) rfl fun w0 N0 => ?_
 unfold ic3
 repeat (first | refine za6 ?_ | refine za0 rfl ?_ | refine za3 ?_ | refine za2 ?_ | refine za4 rfl ?_ | refine zas rfl rfl rfl rfl ?_ | refine zbw rfl rfl ?_)
 refine zaw rfl rfl q1 (fun h => Bool.noConfusion (show false = true from h)) ?_
 cases h1 : fewB f with
 | false =>
  repeat (first | refine za6 ?_ | refine za0 rfl ?_ | refine za3 ?_ | refine za2 ?_ | refine zaz rfl ?_ | refine zdl rfl rfl ?_ | refine zkq rfl ?_ | refine za4 rfl ?_ | refine zar rfl rfl ?_ | refine zf0 rfl rfl ?_)
  refine zaw rfl rfl haw (fun h => Bool.noConfusion (show false = true from h)) ?_
  repeat (first | refine za3 ?_ | refine za2 ?_ | refine zak ?_ | refine za5 ?_ | refine za4 rfl ?_)
  exact zai ⟨.inr rfl, _, rfl, rfl⟩
 | true =>
  repeat (first | refine zc3 rfl ?_ | refine za4 rfl ?_ | refine zas rfl rfl rfl rfl ?_ | refine zf0 rfl rfl ?_)
  try refine zc3 rfl ?_
  refine zaw rfl rfl q2 (fun h => Bool.noConfusion (show false = true from h)) ?_
  cases h2 : fewS l with
  | false =>
   repeat (first | refine za6 ?_ | refine za0 rfl ?_ | refine za3 ?_ | refine za2 ?_ | refine zaz rfl ?_ | refine zc3 rfl ?_ | refine zdl rfl rfl ?_ | refine zkq rfl ?_ | refine za4 rfl ?_ | refine zar rfl rfl ?_ | refine zal rfl rfl ?_ | refine zf0 rfl rfl ?_)
   refine zaw rfl rfl haw (fun h => Bool.noConfusion (show false = true from h)) ?_
   repeat (first | refine za3 ?_ | refine za2 ?_ | refine zak ?_ | refine za5 ?_ | refine za4 rfl ?_)
   exact zai ⟨.inr rfl, _, rfl, rfl⟩
  | true =>
   repeat (first | refine zc3 rfl ?_ | refine za4 rfl ?_ | refine za8 rfl rfl ?_ | refine za9 rfl ?_ | refine zal rfl rfl ?_ | refine zf0 rfl rfl ?_ | refine zba rfl rfl ?_)
   try refine zc3 rfl ?_
   refine zaq rfl rfl rfl (fun h3 => ?_) fun h3 => ?_
   ·repeat (first | refine za6 ?_ | refine za0 rfl ?_ | refine za3 ?_ | refine za2 ?_ | refine zaz rfl ?_ | refine zdl rfl rfl ?_ | refine zkq rfl ?_ | refine za4 rfl ?_ | refine zar rfl rfl ?_ | refine zal rfl rfl ?_)
    refine zaw rfl rfl haw (fun h => Bool.noConfusion (show false = true from h)) ?_
    repeat (first | refine za3 ?_ | refine za2 ?_ | refine zak ?_ | refine za5 ?_ | refine za4 rfl ?_)
    exact zai ⟨.inr rfl, _, rfl, rfl⟩
   have h3 : ¬ (((cPs l).length : Nat) : Int) > 12 := of_decide_eq_false h3
   repeat (first | refine zc3 rfl ?_ | refine za4 rfl ?_ | refine za8 rfl rfl ?_ | refine za9 rfl ?_ | refine zal rfl rfl ?_)
   try refine zc3 rfl ?_
   refine zaq rfl rfl rfl (fun h4 => ?_) fun h4 => ?_
   ·have h4 : n > 4 := of_decide_eq_true h4
    repeat (first | refine zc3 rfl ?_ | refine za4 rfl ?_ | refine za8 rfl rfl ?_ | refine za9 rfl ?_)
    try refine zc3 rfl ?_
    refine zaq rfl rfl rfl (fun h5 => ?_) fun h5 => ?_
    ·repeat (first | refine za6 ?_ | refine za0 rfl ?_ | refine za3 ?_ | refine za2 ?_ | refine zaz rfl ?_ | refine zc3 rfl ?_ | refine zar rfl rfl ?_ | refine zal rfl rfl ?_)
     refine zaw rfl rfl haw (fun h => Bool.noConfusion (show false = true from h)) ?_
     repeat (first | refine za3 ?_ | refine za2 ?_ | refine zak ?_ | refine za5 ?_ | refine za4 rfl ?_)
     exact zai ⟨.inr rfl, _, rfl, rfl⟩
    have h5 : ¬ n ≤ 6 := of_decide_eq_false h5
    have hn : zla n l = 0 → n ≤ 4 := fun h => by have := chk_n h; omega
    obtain ⟨f1, f2⟩ := zv9 h2
    have p1 := zrg f hsl n l (by omega) hn
    have p2 := zrh f hsl n l (by omega) fun p hp => Nat.le_trans (f2 p hp) (by decide)
    have p3 := zv8 (dgT f n l).2.1 (dgT f n l).2.1 (by have := zv2 f n l; omega)
    unfold dgV at p1 p2
    generalize (dgT f n l).1 = A at p1 p2
    generalize (dgT f n l).2.1 = B at p1 p2 p3
    generalize (dgT f n l).2.2 = C at p1 p2
    generalize dgC f n l = D at p1 p2
    rw [decide_eq_true rfl] at p3
    try refine zc3 rfl ?_
    repeat (first | refine za6 ?_ | refine za0 rfl ?_ | refine za3 ?_ | refine za2 ?_ | refine zac ?_ | refine zb8 rfl ?_ | refine zas rfl rfl rfl rfl ?_ | refine zar rfl rfl ?_ | refine zal rfl rfl ?_)
    refine zaw rfl rfl p1 (fun h => Bool.noConfusion (show false = true from h)) ?_
    repeat (first | refine za6 ?_ | refine za0 rfl ?_ | refine za3 ?_ | refine za2 ?_ | refine za4 rfl ?_ | refine zas rfl rfl rfl rfl ?_ | refine zbi rfl rfl ?_)
    refine zaw rfl rfl p2 (fun h => Bool.noConfusion (show false = true from h)) ?_
    repeat (first | refine za6 ?_ | refine za0 rfl ?_ | refine za3 ?_ | refine za2 ?_ | refine za4 rfl ?_ | refine zbi rfl rfl ?_)
    refine zaq rfl rfl rfl (fun _ => ?_) fun h => absurd h (by simp)
    repeat (first | refine zc3 rfl ?_ | refine za4 rfl ?_)
    try refine zc3 rfl ?_
    refine zaw rfl rfl p3 (fun h => Bool.noConfusion (show false = true from h)) ?_
    repeat (first | refine zc3 rfl ?_ | refine za4 rfl ?_ | refine zar rfl rfl ?_)
    cases C
    all_goals
     repeat (first | refine zc3 rfl ?_ | refine za4 rfl ?_ | refine zar rfl rfl ?_ | refine zdn rfl rfl rfl ?_)
     try refine zc3 rfl ?_
     refine zaq rfl rfl rfl (fun _ => ?_) fun h => absurd h (by simp)
     repeat (first | refine zc3 rfl ?_ | refine za4 rfl ?_ | refine zar rfl rfl ?_)
     try refine zc3 rfl ?_
     refine zaw rfl rfl haw (fun h => Bool.noConfusion (show false = true from h)) ?_
     repeat (first | refine za3 ?_ | refine za2 ?_ | refine zak ?_ | refine za4 rfl ?_ | refine zar rfl rfl ?_)
     exact zai ⟨.inr rfl, _, rfl, rfl⟩
   have h4 : ¬ n > 4 := of_decide_eq_false h4
   have hn : zla n l = 0 → n ≤ 4 := fun h => by have := chk_n h; omega
   obtain ⟨f1, f2⟩ := zv9 h2
   have p1 := zrg f hsl n l (by omega) hn
   have p2 := zrh f hsl n l (by omega) fun p hp => Nat.le_trans (f2 p hp) (by decide)
   have p3 := zv8 (dgT f n l).2.1 (dgT f n l).2.1 (by have := zv2 f n l; omega)
   unfold dgV at p1 p2
   generalize (dgT f n l).1 = A at p1 p2
   generalize (dgT f n l).2.1 = B at p1 p2 p3
   generalize (dgT f n l).2.2 = C at p1 p2
   generalize dgC f n l = D at p1 p2
   rw [decide_eq_true rfl] at p3
   try refine zc3 rfl ?_
   repeat (first | refine za6 ?_ | refine za0 rfl ?_ | refine za3 ?_ | refine za2 ?_ | refine zac ?_ | refine zb8 rfl ?_ | refine zc3 rfl ?_ | refine zdl rfl rfl ?_ | refine za4 rfl ?_ | refine zas rfl rfl rfl rfl ?_ | refine zal rfl rfl ?_)
   refine zaw rfl rfl p1 (fun h => Bool.noConfusion (show false = true from h)) ?_
   repeat (first | refine za6 ?_ | refine za0 rfl ?_ | refine za3 ?_ | refine za2 ?_ | refine za4 rfl ?_ | refine zas rfl rfl rfl rfl ?_ | refine zbi rfl rfl ?_)
   refine zaw rfl rfl p2 (fun h => Bool.noConfusion (show false = true from h)) ?_
   repeat (first | refine za6 ?_ | refine za0 rfl ?_ | refine za3 ?_ | refine za2 ?_ | refine za4 rfl ?_ | refine zbi rfl rfl ?_)
   refine zaq rfl rfl rfl (fun _ => ?_) fun h => absurd h (by simp)
   repeat (first | refine zc3 rfl ?_ | refine za4 rfl ?_)
   try refine zc3 rfl ?_
   refine zaw rfl rfl p3 (fun h => Bool.noConfusion (show false = true from h)) ?_
   repeat (first | refine zc3 rfl ?_ | refine za4 rfl ?_ | refine zar rfl rfl ?_)
   cases C
   all_goals
    repeat (first | refine zc3 rfl ?_ | refine za4 rfl ?_ | refine zar rfl rfl ?_ | refine zdn rfl rfl rfl ?_)
    try refine zc3 rfl ?_
    refine zaq rfl rfl rfl (fun _ => ?_) fun h => absurd h (by simp)
    repeat (first | refine zc3 rfl ?_ | refine za4 rfl ?_ | refine zar rfl rfl ?_)
    try refine zc3 rfl ?_
    refine zaw rfl rfl haw (fun h => Bool.noConfusion (show false = true from h)) ?_
    repeat (first | refine za3 ?_ | refine za2 ?_ | refine zak ?_ | refine za4 rfl ?_ | refine zar rfl rfl ?_)
    exact zai ⟨.inr rfl, _, rfl, rfl⟩
end Go.Proofs.Ytoiblgbaeglgoaa
