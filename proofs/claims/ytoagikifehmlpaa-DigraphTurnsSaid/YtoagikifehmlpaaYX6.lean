/-
  Reversing twice changes nothing: the law.
-/
import Derived.Test.YtoagikifehmlpaaYX5
namespace Go.Proofs.Ytoagikifehmlpaa
open Go Go.Am
theorem chk_of {m : Nat} {E : List (Nat × Nat)} (hm : m ≤ 256) (hE : E.length ≤ 4096) (hb : ∀ u v, (u, v) ∈ E → u < m ∧ v < m) : zcj (m : Nat) (zaj E) = 0 := by
 unfold zcj
 rw [if_neg (by omega), if_neg (by omega), if_neg (by rw [zdm]; omega)]
 unfold zn1
 rw [if_neg]
 intro h
 obtain ⟨e, he, h2⟩ := List.any_eq_true.1 h
 unfold zaj at he
 obtain ⟨⟨a, b⟩, h3, rfl⟩ := List.mem_map.1 he
 have := hb a b h3
 unfold zfv at h2
 rw [Bool.or_eq_true, Bool.or_eq_true, Bool.or_eq_true, decide_eq_true_eq, decide_eq_true_eq, decide_eq_true_eq, decide_eq_true_eq] at h2
 have h2 : (((a : Nat) : Int) < 0 ∨ ((a : Nat) : Int) ≥ (m : Nat)) ∨ (((b : Nat) : Int) < 0 ∨ ((b : Nat) : Int) ≥ (m : Nat)) := h2
 omega
theorem zl3 {E : List (Nat × Nat)} {m x y : Nat} (hb : ∀ u v, (u, v) ∈ E → u < m ∧ v < m) (hx : x < m) (hy : y < m) : zfa (rvE E) m x y = zfa E m x y := by
 unfold zfa
 rw [zt3 hb hx hy, zt3 hb hy hx, Bool.and_comm]
theorem prtL_rev {E : List (Nat × Nat)} {m : Nat} (hb : ∀ u v, (u, v) ∈ E → u < m ∧ v < m) : zup (rvE E) m = zup E m := by
 have h1 : rps (rvE E) m m = rps E m m := by
  unfold rps
  refine List.filter_congr fun v hv => ?_
  rw [List.mem_range] at hv
  rw [Bool.eq_iff_iff, List.all_eq_true, List.all_eq_true]
  refine forall_congr' fun u => ?_
  constructor
  ·intro h hu
   have := h hu
   rw [List.mem_range] at hu
   rwa [zl3 hb (by omega) hv] at this
  ·intro h hu
   have := h hu
   rw [List.mem_range] at hu
   rwa [zl3 hb (by omega) hv]
 unfold zup
 rw [h1]
 refine List.map_congr_left fun r hr => List.filter_congr fun v hv => ?_
 exact zl3 hb ((zer hb (Nat.le_refl m)).1 hr).1 (List.mem_range.1 hv)
theorem swE_swE (es : List (Int × Int)) : swE (swE es) = es := by
 unfold swE
 rw [List.map_map]
 exact (List.map_congr_left fun e _ => rfl).trans (List.map_id _)
def b40_0 : IC := .seq (.region [⟨(some 14), .bin .lss (.t 13) (.t 12), none⟩] none)
 (.seq (.cond (.t 14) (.skip)
 (.exit 0))
 (.seq (.block 1 (.seq (.region [⟨(some 15), .mov (.t 13), none⟩,
  ⟨(some 5), .mov (.t 15), none⟩] none)
 (.seq (.region [⟨(some 16), .mov (.t 0), none⟩,
  ⟨(some 17), .mov (.t 5), none⟩,
  ⟨(some 18), .idxs 2 (.t 16) (.t 17), none⟩,
  ⟨(some 19), .load (some 2) (.t 18), none⟩,
  ⟨(some 20), .mov (.t 1), none⟩,
  ⟨(some 21), .mov (.t 5), none⟩,
  ⟨(some 22), .idxs 2 (.t 20) (.t 21), none⟩,
  ⟨(some 23), .load (some 2) (.t 22), none⟩,
  ⟨(some 24), .eqs true [(0, .int), (1, .int)] (.t 19) (.t 23), none⟩] (some [[], [], [0, 1], [2], [], [], [4, 5], [6], [3, 7]]))
 (.cond (.t 24) (.seq (.region [⟨(some 4), .mov (.c (.bool false)), none⟩] none)
 (.ret))
 (.skip)))))
 (.region [⟨(some 25), .bin .add (.t 13) (.c (.int .i64 1)), none⟩,
  ⟨(some 13), .mov (.t 25), none⟩] none)))
-- slices.Equal[[]pneumatic/api.Edge,pneumatic/api.Edge]
def ic40 : IC := .seq (.region [⟨(some 4), .mov (.c (.bool false)), none⟩] none)
 (.seq (.seq (.region [⟨(some 6), .mov (.t 0), none⟩,
  ⟨(some 7), .len false (.t 6), none⟩,
  ⟨(some 8), .mov (.t 1), none⟩,
  ⟨(some 9), .len false (.t 8), none⟩,
  ⟨(some 10), .bin .neq (.t 7) (.t 9), none⟩] none)
 (.cond (.t 10) (.seq (.region [⟨(some 4), .mov (.c (.bool false)), none⟩] none)
 (.ret))
 (.skip)))
 (.seq (.seq (.region [⟨(some 11), .mov (.t 0), none⟩,
  ⟨(some 12), .len false (.t 11), none⟩,
  ⟨(some 13), .mov (.c (.int .i64 0)), none⟩] none)
 (.block 0 (.loop b40_0)))
 (.seq (.region [⟨(some 4), .mov (.c (.bool true)), none⟩] none)
 (.ret))))
theorem fn40 : env0.fn 40 = some ⟨26, ic40, [.t 4]⟩ := by kernel_rfl
set_option maxHeartbeats 1000000 in
theorem equal40 (es : List (Int × Int)) (he : es.length ≤ 1000000) : PF Try.prog 40 [.vs (cE es), .vs (cE es)] (.bool true) := by
 have hcl := zbj es
 refine zb7 env0_ok fn40 [(0, .vs (cE es)), (1, .vs (cE es))] (by show 2 ≤ 26; decide) rfl fun w0 N0 => ?_
 unfold ic40
 repeat (first | refine za6 ?_ | refine za0 rfl ?_ | refine za3 ?_ | refine za1 ?_ | refine za2 rfl ?_ | refine zbh rfl rfl ?_)
 refine zcv rfl rfl (by show some (AV.bool (!((((cE es).length : Nat) : Int) == ((cE es).length : Nat)))) = _; simp) ?_
 repeat (first | refine za6 ?_ | refine za0 rfl ?_ | refine za3 ?_ | refine za1 ?_ | refine zab ?_ | refine zad ?_ | refine zbp rfl ?_ | refine za2 rfl ?_ | refine zbh rfl rfl ?_)
 refine zb6 (fun mm S => ∃ i, mm = es.length - i ∧ i ≤ es.length ∧ S = st 26 [(0, .vs (cE es)), (1, .vs (cE es)), (12, .int .i64 (es.length : Nat)), (13, .int .i64 (i : Nat))] [] 0 0) es.length
  (za7 (.cons rfl (.cons rfl (.cons (by exact congrArg (fun z : Nat => some (AV.int .i64 (z : Nat))) hcl) (.cons rfl .nil))))) ⟨0, rfl, Nat.zero_le _, rfl⟩ ?_
 rintro mm S ⟨i, rfl, hi, rfl⟩
 unfold b40_0
 repeat (first | refine za6 ?_ | refine za0 rfl ?_)
 refine zao rfl rfl rfl (fun h3 => ?_) fun h3 => ?_
 ·have hlt : i < es.length := Int.ofNat_lt.1 (of_decide_eq_true h3)
  have w1 : IntKind.wrap .i64 (((i : Nat) : Int) + 1) = ((i + 1 : Nat) : Int) := zag i (by omega)
  have hg := zlw hlt
  generalize es[i].1 = a at *
  generalize es[i].2 = b at *
  repeat (first | refine za6 ?_ | refine za0 rfl ?_ | refine za3 ?_ | refine za1 ?_ | refine zab ?_ | refine zad ?_ | refine zc5 rfl ?_ | refine za2 rfl ?_ | refine zap rfl rfl rfl rfl ?_ | refine zgc env0_ok rfl rfl rfl ?_ | refine zb0 rfl rfl (by omega) (by assumption) rfl ?_)
  refine o_eqs (r := true) rfl rfl (by simp [zp9, eqK]) (fun h => Bool.noConfusion h) fun _ => ?_
  repeat (first | refine za0 rfl ?_ | refine za3 ?_ | refine za1 ?_ | refine zb2 ?_ | refine zad ?_ | refine zbp rfl ?_ | refine za2 rfl ?_ | refine zay (op := .add) rfl rfl rfl ?_)
  rw [w1]
  exact zah (show es.length - (i + 1) < es.length - i by omega) (za7 (.cons rfl (.cons rfl (.cons rfl (.cons rfl .nil))))) ⟨i + 1, rfl, hlt, rfl⟩
 ·repeat (first | refine za6 ?_ | refine za3 ?_ | refine za1 ?_ | refine zbp rfl ?_ | refine zb4 ?_ | refine zac ?_)
  refine zbx ?_
  repeat (first | refine za6 ?_ | refine za0 rfl ?_ | refine za3 ?_ | refine za1 ?_ | refine zax ?_ | refine zb3 ?_ | refine za2 rfl ?_)
  exact zav ⟨.inr rfl, _, rfl, rfl⟩
def fndL (o : List Int) (v : Nat) (l : List (Nat × Nat)) : Bool := (gZ o v == 0) || l.any fun e => e.2 == v && gZ o e.1 == gZ o v - 1
def b10_2 : IC := .seq (.region [⟨(some 101), .bin .lss (.t 100) (.t 99), none⟩] none)
 (.seq (.cond (.t 101) (.skip)
 (.exit 2))
 (.seq (.block 3 (.seq (.region [⟨(some 102), .idxs 2 (.t 98) (.t 100), none⟩,
  ⟨(some 103), .load (some 2) (.t 102), none⟩,
  ⟨(some 17), .alloc [.int .i64 0, .int .i64 0], none⟩,
  ⟨none, .store 2 (.t 17) (.t 103), none⟩] none)
 (.seq (.seq (.region [⟨(some 104), .faddr 1 (.t 17), none⟩,
  ⟨(some 105), .load none (.t 104), none⟩,
  ⟨(some 106), .mov (.t 13), none⟩,
  ⟨(some 107), .bin .eql (.t 105) (.t 106), none⟩,
  ⟨(some 108), .mov (.t 107), none⟩,
  ⟨(some 109), .mov (.t 11), some (108, true)⟩,
  ⟨(some 110), .faddr 0 (.t 17), some (108, true)⟩,
  ⟨(some 111), .load none (.t 110), some (108, true)⟩,
  ⟨(some 112), .idxs 1 (.t 109) (.t 111), some (108, true)⟩,
  ⟨(some 113), .load none (.t 112), some (108, true)⟩,
  ⟨(some 114), .mov (.t 14), some (108, true)⟩,
  ⟨(some 115), .bin .geq (.t 113) (.t 114), some (108, true)⟩,
  ⟨(some 116), .pick (.t 108) (.t 115) (.c (.bool false)), none⟩] none)
 (.cond (.t 116) (.seq (.region [⟨(some 2), .mov (.c (.bool false)), none⟩] none)
 (.ret))
 (.skip)))
 (.region [⟨(some 117), .mov (.t 15), none⟩,
  ⟨(some 118), .mov (.t 117), none⟩,
  ⟨(some 119), .faddr 1 (.t 17), some (118, false)⟩,
  ⟨(some 120), .load none (.t 119), some (118, false)⟩,
  ⟨(some 121), .mov (.t 13), some (118, false)⟩,
  ⟨(some 122), .bin .eql (.t 120) (.t 121), some (118, false)⟩,
  ⟨(some 123), .mov (.t 122), some (118, false)⟩,
  ⟨(some 124), .mov (.t 11), some (123, true)⟩,
  ⟨(some 125), .faddr 0 (.t 17), some (123, true)⟩,
  ⟨(some 126), .load none (.t 125), some (123, true)⟩,
  ⟨(some 127), .idxs 1 (.t 124) (.t 126), some (123, true)⟩,
  ⟨(some 128), .load none (.t 127), some (123, true)⟩,
  ⟨(some 129), .mov (.t 14), some (123, true)⟩,
  ⟨(some 130), .bin .sub (.t 129) (.c (.int .i64 1)), some (123, true)⟩,
  ⟨(some 131), .bin .eql (.t 128) (.t 130), some (123, true)⟩,
  ⟨(some 132), .pick (.t 123) (.t 131) (.c (.bool false)), some (118, false)⟩,
  ⟨(some 133), .pick (.t 118) (.c (.bool true)) (.t 132), none⟩,
  ⟨(some 15), .mov (.t 133), none⟩] none))))
 (.region [⟨(some 134), .bin .add (.t 100) (.c (.int .i64 1)), none⟩,
  ⟨(some 100), .mov (.t 134), none⟩] none)))
def b10_0 : IC := .seq (.region [⟨(some 91), .bin .lss (.t 90) (.t 89), none⟩] none)
 (.seq (.cond (.t 91) (.skip)
 (.exit 0))
 (.seq (.block 1 (.seq (.region [⟨(some 92), .mov (.t 90), none⟩,
  ⟨(some 93), .idxs 1 (.t 88) (.t 90), none⟩,
  ⟨(some 94), .load none (.t 93), none⟩,
  ⟨(some 13), .mov (.t 92), none⟩,
  ⟨(some 14), .mov (.t 94), none⟩] none)
 (.seq (.region [⟨(some 95), .mov (.t 14), none⟩,
  ⟨(some 96), .bin .eql (.t 95) (.c (.int .i64 0)), none⟩,
  ⟨(some 15), .mov (.t 96), none⟩] none)
 (.seq (.seq (.region [⟨(some 97), .faddr 1 (.t 1), none⟩,
  ⟨(some 98), .load none (.t 97), none⟩,
  ⟨(some 99), .len false (.t 98), none⟩,
  ⟨(some 100), .mov (.c (.int .i64 0)), none⟩] none)
 (.block 2 (.loop b10_2)))
 (.seq (.region [⟨(some 135), .mov (.t 14), none⟩,
  ⟨(some 136), .bin .lss (.t 135) (.c (.int .i64 0)), none⟩,
  ⟨(some 137), .mov (.t 136), none⟩,
  ⟨(some 138), .mov (.t 15), some (137, false)⟩,
  ⟨(some 139), .un .not (.t 138), some (137, false)⟩,
  ⟨(some 140), .pick (.t 137) (.c (.bool true)) (.t 139), none⟩] none)
 (.cond (.t 140) (.seq (.region [⟨(some 2), .mov (.c (.bool false)), none⟩] none)
 (.ret))
 (.skip)))))))
 (.region [⟨(some 141), .bin .add (.t 90) (.c (.int .i64 1)), none⟩,
  ⟨(some 90), .mov (.t 141), none⟩] none)))
-- pneumatic/pneumaticlaw10.DigraphTurns
def ic10 : IC := .seq (.region [⟨(some 1), .box (.t 0), none⟩,
  ⟨(some 2), .mov (.c (.bool false)), none⟩] none)
 (.seq (.seq (.region [⟨(some 18), .load (some 2) (.t 1), none⟩,
  ⟨(some 19), .call (.c (.fn 20 [] [])) [(.t 18)], none⟩,
  ⟨(some 20), .un .not (.t 19), none⟩] none)
 (.cond (.t 20) (.seq (.region [⟨(some 21), .call (.c (.fn 12 [] [])) [], none⟩,
  ⟨(some 2), .mov (.t 21), none⟩] none)
 (.ret))
 (.skip)))
 (.seq (.region [⟨(some 23), .load (some 2) (.t 1), none⟩,
  ⟨(some 24), .call (.c (.fn 29 [] [])) [(.t 23)], none⟩,
  ⟨(some 22), .mov (.t 24), none⟩,
  ⟨(some 25), .extract (.t 22) 0, none⟩,
  ⟨(some 26), .extract (.t 22) 1, none⟩,
  ⟨(some 3), .alloc [.int .i64 0, .nils], none⟩,
  ⟨none, .store 2 (.t 3) (.t 25), none⟩,
  ⟨(some 4), .mov (.t 26), none⟩] none)
 (.seq (.region [⟨(some 28), .load (some 2) (.t 3), none⟩,
  ⟨(some 29), .call (.c (.fn 29 [] [])) [(.t 28)], none⟩,
  ⟨(some 27), .mov (.t 29), none⟩,
  ⟨(some 30), .extract (.t 27) 0, none⟩,
  ⟨(some 31), .extract (.t 27) 1, none⟩,
  ⟨(some 5), .alloc [.int .i64 0, .nils], none⟩,
  ⟨none, .store 2 (.t 5) (.t 30), none⟩,
  ⟨(some 6), .mov (.t 31), none⟩] none)
 (.seq (.region [⟨(some 33), .load (some 2) (.t 1), none⟩,
  ⟨(some 34), .call (.c (.fn 13 [] [])) [(.t 33)], none⟩,
  ⟨(some 32), .mov (.t 34), none⟩,
  ⟨(some 35), .extract (.t 32) 0, none⟩,
  ⟨(some 36), .extract (.t 32) 1, none⟩,
  ⟨(some 7), .mov (.t 35), none⟩,
  ⟨(some 8), .mov (.t 36), none⟩] none)
 (.seq (.region [⟨(some 38), .load (some 2) (.t 3), none⟩,
  ⟨(some 39), .call (.c (.fn 13 [] [])) [(.t 38)], none⟩,
  ⟨(some 37), .mov (.t 39), none⟩,
  ⟨(some 40), .extract (.t 37) 0, none⟩,
  ⟨(some 41), .extract (.t 37) 1, none⟩,
  ⟨(some 9), .mov (.t 40), none⟩,
  ⟨(some 10), .mov (.t 41), none⟩] none)
 (.seq (.seq (.region [⟨(some 42), .mov (.t 4), none⟩,
  ⟨(some 43), .mov (.t 6), none⟩,
  ⟨(some 44), .bin .add (.t 42) (.t 43), none⟩,
  ⟨(some 45), .mov (.t 8), none⟩,
  ⟨(some 46), .bin .add (.t 44) (.t 45), none⟩,
  ⟨(some 47), .mov (.t 10), none⟩,
  ⟨(some 48), .bin .add (.t 46) (.t 47), none⟩,
  ⟨(some 49), .bin .neq (.t 48) (.c (.int .i64 0)), none⟩,
  ⟨(some 50), .mov (.t 49), none⟩,
  ⟨(some 51), .faddr 0 (.t 5), some (50, false)⟩,
  ⟨(some 52), .load none (.t 51), some (50, false)⟩,
  ⟨(some 53), .faddr 0 (.t 1), some (50, false)⟩,
  ⟨(some 54), .load none (.t 53), some (50, false)⟩,
  ⟨(some 55), .bin .neq (.t 52) (.t 54), some (50, false)⟩,
  ⟨(some 56), .pick (.t 50) (.c (.bool true)) (.t 55), none⟩,
  ⟨(some 57), .mov (.t 56), none⟩,
  ⟨(some 58), .faddr 1 (.t 5), some (57, false)⟩,
  ⟨(some 59), .load none (.t 58), some (57, false)⟩,
  ⟨(some 60), .faddr 1 (.t 1), some (57, false)⟩,
  ⟨(some 61), .load none (.t 60), some (57, false)⟩,
  ⟨(some 62), .call (.c (.fn 40 [] [])) [(.t 59), (.t 61)], some (57, false)⟩,
  ⟨(some 63), .un .not (.t 62), some (57, false)⟩,
  ⟨(some 64), .pick (.t 57) (.c (.bool true)) (.t 63), none⟩,
  ⟨(some 65), .mov (.t 64), none⟩,
  ⟨(some 66), .mov (.t 7), some (65, false)⟩,
  ⟨(some 67), .mov (.t 9), some (65, false)⟩,
  ⟨(some 68), .call (.c (.fn 17 [] [])) [(.t 66), (.t 67)], some (65, false)⟩,
  ⟨(some 69), .un .not (.t 68), some (65, false)⟩,
  ⟨(some 70), .pick (.t 65) (.c (.bool true)) (.t 69), none⟩] none)
 (.cond (.t 70) (.seq (.region [⟨(some 2), .mov (.c (.bool false)), none⟩] none)
 (.ret))
 (.skip)))
 (.seq (.region [⟨(some 72), .load (some 2) (.t 1), none⟩,
  ⟨(some 73), .call (.c (.fn 38 [] [])) [(.t 72)], none⟩,
  ⟨(some 71), .mov (.t 73), none⟩,
  ⟨(some 74), .extract (.t 71) 0, none⟩,
  ⟨(some 75), .extract (.t 71) 1, none⟩,
  ⟨(some 11), .mov (.t 74), none⟩,
  ⟨(some 12), .mov (.t 75), none⟩] none)
 (.seq (.seq (.region [⟨(some 76), .mov (.t 12), none⟩,
  ⟨(some 77), .bin .eql (.t 76) (.c (.int .i64 20)), none⟩] none)
 (.cond (.t 77) (.seq (.region [⟨(some 78), .call (.c (.fn 12 [] [])) [], none⟩,
  ⟨(some 2), .mov (.t 78), none⟩] none)
 (.ret))
 (.skip)))
 (.seq (.seq (.region [⟨(some 79), .mov (.t 12), none⟩,
  ⟨(some 80), .bin .neq (.t 79) (.c (.int .i64 0)), none⟩,
  ⟨(some 81), .mov (.t 80), none⟩,
  ⟨(some 82), .mov (.t 11), some (81, false)⟩,
  ⟨(some 83), .len false (.t 82), some (81, false)⟩,
  ⟨(some 84), .faddr 0 (.t 1), some (81, false)⟩,
  ⟨(some 85), .load none (.t 84), some (81, false)⟩,
  ⟨(some 86), .bin .neq (.t 83) (.t 85), some (81, false)⟩,
  ⟨(some 87), .pick (.t 81) (.c (.bool true)) (.t 86), none⟩] none)
 (.cond (.t 87) (.seq (.region [⟨(some 2), .mov (.c (.bool false)), none⟩] none)
 (.ret))
 (.skip)))
 (.seq (.seq (.region [⟨(some 88), .mov (.t 11), none⟩,
  ⟨(some 89), .len false (.t 88), none⟩,
  ⟨(some 90), .mov (.c (.int .i64 0)), none⟩] none)
 (.block 0 (.loop b10_0)))
 (.seq (.region [⟨(some 142), .call (.c (.fn 12 [] [])) [], none⟩,
  ⟨(some 2), .mov (.t 142), none⟩] none)
 (.ret))))))))))))
theorem fn10 : env0.fn 10 = some ⟨143, ic10, [.t 2]⟩ := by kernel_rfl
set_option maxRecDepth 100000 in
set_option maxHeartbeats 8000000 in
theorem law10 (n : Int) (es : List (Int × Int)) : PF Try.prog 10 [cG n es] (.bool true) := by
 have p20 := right20 n es
 refine zb7 env0_ok fn10 [(0, .agg [.int .i64 n, .vs (cE es)])] (by show 1 ≤ 143; decide) rfl fun w0 N0 => ?_
 unfold ic10
 refine za6 (za0 rfl (zdh rfl rfl (za2 rfl (za3 (za1 ?_)))))
 refine zba [] [(0, 0, [.int .i64 n, .vs (cE es)])] [(1, .vptr [.int .i64 n, .vs (cE es)])] rfl (.cons rfl rfl .nil) .nil (.cons rfl (.fptr rfl rfl) .nil) ?_
 repeat (first | refine za6 ?_ | refine za0 rfl ?_ | refine zap rfl rfl rfl rfl ?_)
 refine zau rfl rfl p20 (fun h => Bool.noConfusion (show false = true from h)) ?_
 cases hr : rgtB n es with
 | false =>
  repeat (first | refine za6 ?_ | refine za0 rfl ?_ | refine za3 ?_ | refine za1 ?_ | refine zc5 rfl ?_ | refine zml rfl rfl ?_)
  refine zau rfl rfl zhk (fun h => Bool.noConfusion (show false = true from h)) ?_
  repeat (first | refine za3 ?_ | refine za1 ?_ | refine zax ?_ | refine zam ?_ | refine za2 rfl ?_)
  exact zav ⟨.inr rfl, _, rfl, rfl⟩
 | true =>
 obtain ⟨m, E, rfl, rfl, hm, hE, hck, hb⟩ := rgt_ok hr
 have hckr : zcj (m : Nat) (zaj (rvE E)) = 0 := chk_of (by omega) (by rw [zvc]; omega) (zmu hb)
 have p29 := zmt (m : Nat) (zaj E)
 have p29r := zmt (m : Nat) (zaj (rvE E))
 unfold revV at p29 p29r
 rw [if_pos hck, zhe] at p29
 rw [if_pos hckr, ← zhe, swE_swE, zhe] at p29r
 have p13 := zem (m : Nat) (zaj E) (fun _ => by omega)
 have p13r := zem (m : Nat) (zaj (rvE E)) (fun _ => by omega)
 rw [zht hck] at p13
 rw [zht hckr] at p13r
 unfold cmsN at p13 p13r
 rw [prtL_rev hb] at p13r
 have p40 := equal40 (zaj E) (by rw [zdm]; omega)
 have p17 := same17 (zup E m) (by unfold zup; rw [List.length_map]; have := zfm E m m; omega) (fun p hp => by
  obtain ⟨r, _, rfl⟩ := List.mem_map.1 hp
  have := List.length_filter_le (fun v => zfa E m r v) (List.range m)
  rw [List.length_range] at this
  omega)
 have p38 := layers38 (m : Nat) (zaj E)
 rw [zu3 hck] at p38
 have hcl : (cE (zaj E)).length = E.length := by rw [zbj]; exact zdm E
 unfold layN at p38
 repeat (first | refine za6 ?_ | refine za0 rfl ?_ | refine za3 ?_ | refine za1 ?_ | refine zad ?_ | refine zbp rfl ?_ | refine zap rfl rfl rfl rfl ?_ | refine zml rfl rfl ?_)
 refine zau rfl rfl p29 (fun h => Bool.noConfusion (show false = true from h)) ?_
 repeat (first | refine za6 ?_ | refine za0 rfl ?_ | refine za3 ?_ | refine za1 ?_ | refine za2 rfl ?_ | refine zap rfl rfl rfl rfl ?_ | refine zbf rfl rfl rfl rfl rfl rfl rfl ?_ | refine zbm ?_ | refine zb9 rfl rfl ?_)
 refine zau rfl rfl p29r (fun h => Bool.noConfusion (show false = true from h)) ?_
 repeat (first | refine za6 ?_ | refine za0 rfl ?_ | refine za3 ?_ | refine za1 ?_ | refine za2 rfl ?_ | refine zap rfl rfl rfl rfl ?_ | refine zbf rfl rfl rfl rfl rfl rfl rfl ?_ | refine zbm ?_ | refine zb9 rfl rfl ?_)
 refine zau rfl rfl p13 (fun h => Bool.noConfusion (show false = true from h)) ?_
 repeat (first | refine za6 ?_ | refine za0 rfl ?_ | refine za3 ?_ | refine za1 ?_ | refine za2 rfl ?_ | refine zap rfl rfl rfl rfl ?_ | refine zb9 rfl rfl ?_)
 refine zau rfl rfl p13r (fun h => Bool.noConfusion (show false = true from h)) ?_
 repeat (first | refine za6 ?_ | refine za0 rfl ?_ | refine za3 ?_ | refine za1 ?_ | refine zck rfl ?_ | refine za2 rfl ?_ | refine zaf rfl rfl ?_ | refine zaw rfl ?_ | refine zae rfl rfl rfl ?_ | refine zb9 rfl rfl ?_ | refine zay (op := .add) rfl rfl rfl ?_ | refine zcv rfl rfl rfl ?_)
 refine zcv rfl rfl (by show some (AV.bool (!(((m : Nat) : Int) == (m : Nat)))) = _; simp) ?_
 repeat (first | refine zck rfl ?_ | refine za2 rfl ?_ | refine zaf rfl rfl ?_ | refine zaw rfl ?_ | refine zae rfl rfl rfl ?_ | refine zas rfl rfl ?_)
 refine zau rfl rfl p40 (fun h => Bool.noConfusion (show false = true from h)) ?_
 repeat (first | refine zck rfl ?_ | refine za2 rfl ?_ | refine zas rfl rfl ?_ | refine zml rfl rfl ?_)
 refine zau rfl rfl p17 (fun h => Bool.noConfusion (show false = true from h)) ?_
 repeat (first | refine za6 ?_ | refine za0 rfl ?_ | refine za3 ?_ | refine za1 ?_ | refine zad ?_ | refine zbp rfl ?_ | refine zck rfl ?_ | refine zap rfl rfl rfl rfl ?_ | refine zas rfl rfl ?_ | refine zml rfl rfl ?_)
 cases hs : zvk E m m [] with
 | none =>
  rw [hs] at p38
  have p38 : PF Try.prog 38 [cG (m : Nat) (zaj E)] (.tup [.vs [], .int .i64 20]) := p38
  refine zau rfl rfl p38 (fun h => Bool.noConfusion (show false = true from h)) ?_
  repeat (first | refine za6 ?_ | refine za0 rfl ?_ | refine za3 ?_ | refine za1 ?_ | refine zc5 rfl ?_ | refine za2 rfl ?_ | refine zb9 rfl rfl ?_ | refine ziq rfl rfl rfl ?_)
  refine zau rfl rfl zhk (fun h => Bool.noConfusion (show false = true from h)) ?_
  repeat (first | refine za3 ?_ | refine za1 ?_ | refine zax ?_ | refine zam ?_ | refine za2 rfl ?_)
  exact zav ⟨.inr rfl, _, rfl, rfl⟩
 | some l =>
  rw [hs] at p38
  have p38 : PF Try.prog 38 [cG (m : Nat) (zaj E)] (.tup [vsI (layS E m l), .int .i64 0]) := p38
  obtain ⟨hT, hll, _⟩ := zqd hs
  have hLay := layS_lay hb hT (Nat.le_of_eq hll.symm)
  have hle := lay_le hLay
  generalize layS E m l = o at *
  have hol := hLay.len
  have hvl : (o.map fun z => ([.int .i64 z] : List AV)).length = m := by rw [List.length_map, hol]
  have hgo : ∀ v, v < m → (o.map fun z => ([.int .i64 z] : List AV))[((v : Nat) : Int).toNat]? = some [.int .i64 (gZ o v)] := fun v hv => by rw [zew (by omega), gZ_at]
  refine zau rfl rfl p38 (fun h => Bool.noConfusion (show false = true from h)) ?_
  repeat (first | refine za6 ?_ | refine za0 rfl ?_ | refine za3 ?_ | refine za1 ?_ | refine zad ?_ | refine zbp rfl ?_ | refine zck rfl ?_ | refine za2 rfl ?_ | refine zaf rfl rfl ?_ | refine zae rfl rfl rfl ?_ | refine zbh rfl rfl ?_ | refine zb9 rfl rfl ?_ | refine zcv rfl rfl rfl ?_)
  refine zcv rfl rfl (by show some (AV.bool (!((((o.map fun z => ([.int .i64 z] : List AV)).length : Nat) : Int) == (m : Nat)))) = _; rw [hvl]; simp) ?_
  repeat (first | refine za6 ?_ | refine za0 rfl ?_ | refine za3 ?_ | refine za1 ?_ | refine zab ?_ | refine zad ?_ | refine zbp rfl ?_ | refine za2 rfl ?_ | refine zas rfl rfl ?_ | refine zbh rfl rfl ?_)
  refine zb6 (fun mm S => ∃ v hp nx ck, mm = m - v ∧ v ≤ m ∧ S = st 143 [(1, .vptr [.int .i64 (m : Nat), .vs (cE (zaj E))]), (11, vsI o), (88, vsI o), (89, .int .i64 (m : Nat)), (90, .int .i64 (v : Nat))] hp nx ck) m
   (za7 (.cons rfl (.cons rfl (.cons rfl (.cons (by exact congrArg (fun z : Nat => some (AV.int .i64 (z : Nat))) hvl) (.cons rfl .nil)))))) ⟨0, _, _, _, rfl, Nat.zero_le _, rfl⟩ ?_
  rintro mm S ⟨v, hp, nx, ck, rfl, hv, rfl⟩
  unfold b10_0
  repeat (first | refine za6 ?_ | refine za0 rfl ?_)
  refine zao rfl rfl rfl (fun h3 => ?_) fun h3 => ?_
  ·have hlt : v < m := Int.ofNat_lt.1 (of_decide_eq_true h3)
   have w1 : IntKind.wrap .i64 (((v : Nat) : Int) + 1) = ((v + 1 : Nat) : Int) := zag v (by omega)
   have hgv := hgo v hlt
   have hlv := hle v
   have hlo := hLay.low v
   have w3 : IntKind.wrap .i64 (gZ o v - 1) = gZ o v - 1 := zgq _ (by omega) (by omega)
   have hf0 : fndL o v [] = (gZ o v == 0) := Bool.or_false _
   have hfs : ∀ j (hj : j < E.length), fndL o v (E.take (j + 1)) = (fndL o v (E.take j) || (E[j].2 == v && gZ o E[j].1 == gZ o v - 1)) := fun j hj => by
    rw [List.take_add_one, List.getElem?_eq_getElem hj]
    unfold fndL
    rw [List.any_append, Bool.or_assoc]
    show (_ || (_ || ((E[j].2 == v && gZ o E[j].1 == gZ o v - 1) || false))) = _
    rw [Bool.or_false]
   have hfe : fndL o v E = true := by
    unfold fndL
    rw [Bool.or_eq_true, beq_iff_eq, List.any_eq_true]
    by_cases c : gZ o v = 0
    ·exact .inl c
    ·obtain ⟨u, hu, e⟩ := hLay.down v (by omega)
     exact .inr ⟨(u, v), hu, by rw [Bool.and_eq_true, beq_iff_eq, beq_iff_eq]; exact ⟨rfl, e⟩⟩
   repeat (first | refine za6 ?_ | refine za0 rfl ?_ | refine za3 ?_ | refine za1 ?_ | refine zab ?_ | refine zad ?_ | refine zc5 rfl ?_ | refine za2 rfl ?_ | refine zaf rfl rfl ?_ | refine zb0 rfl rfl (by omega) (by assumption) rfl ?_)
   refine zay (op := .eql) rfl rfl rfl ?_
   rw [← hf0]
   repeat (first | refine za6 ?_ | refine za0 rfl ?_ | refine za3 ?_ | refine za1 ?_ | refine zab ?_ | refine za2 rfl ?_ | refine zaf rfl rfl ?_ | refine zae rfl rfl rfl ?_ | refine zbh rfl rfl ?_)
   refine zb6 (fun mm S => ∃ j hp nx ck, mm = E.length - j ∧ j ≤ E.length ∧ S = st 143 [(1, .vptr [.int .i64 (m : Nat), .vs (cE (zaj E))]), (11, vsI o), (13, .int .i64 (v : Nat)), (14, .int .i64 (gZ o v)), (15, .bool (fndL o v (E.take j))), (88, vsI o), (89, .int .i64 (m : Nat)), (90, .int .i64 (v : Nat)), (98, .vs (cE (zaj E))), (99, .int .i64 (E.length : Nat)), (100, .int .i64 (j : Nat))] hp nx ck) E.length
    (za7 (.cons rfl (.cons rfl (.cons rfl (.cons rfl (.cons rfl (.cons rfl (.cons rfl (.cons rfl (.cons rfl (.cons (by exact congrArg (fun z : Nat => some (AV.int .i64 (z : Nat))) hcl) (.cons rfl .nil)))))))))))) ⟨0, _, _, _, rfl, Nat.zero_le _, rfl⟩ ?_
   rintro mm S ⟨j, hp, nx, ck, rfl, hj, rfl⟩
   unfold b10_2
   repeat (first | refine za6 ?_ | refine za0 rfl ?_)
   refine zao rfl rfl rfl (fun h4 => ?_) fun h4 => ?_
   ·have hlt2 : j < E.length := Int.ofNat_lt.1 (of_decide_eq_true h4)
    have w2 : IntKind.wrap .i64 (((j : Nat) : Int) + 1) = ((j + 1 : Nat) : Int) := zag j (by omega)
    have hg := zel hlt2
    have hmm : (E[j].1, E[j].2) ∈ E := List.getElem_mem hlt2
    obtain ⟨hx, hy⟩ := hb _ _ hmm
    have hup := hLay.up _ _ hmm
    have hfj := hfs j hlt2
    generalize E[j].1 = x at *
    generalize E[j].2 = y at *
    have hgx := hgo x hx
    repeat (first | refine za6 ?_ | refine za0 rfl ?_ | refine za3 ?_ | refine za1 ?_ | refine zab ?_ | refine zad ?_ | refine zc5 rfl ?_ | refine zap rfl rfl rfl rfl ?_ | refine zbm ?_ | refine zb0 rfl rfl (by omega) (by assumption) rfl ?_)
    refine zbf (id := nx) (sp := ck) (off := 0) rfl rfl rfl rfl zbe rfl rfl ?_
    have k5 : Am.look nx (zbo nx (ck, AObj.cells [.int .i64 (x : Nat), .int .i64 (y : Nat)]) ((nx, ck, AObj.cells [.int .i64 0, .int .i64 0]) :: hp)) = some (ck, .cells [.int .i64 (x : Nat), .int .i64 (y : Nat)]) := by
     rw [za4, if_pos rfl]
    repeat (first | refine za6 ?_ | refine za0 rfl ?_ | refine za3 ?_ | refine za1 ?_ | refine zaw rfl ?_)
    refine zak (id := nx) (sp := ck) (off := 0 + 1) rfl k5 (Nat.lt_succ_self _) rfl ?_
    repeat (first | refine za2 rfl ?_)
    refine zao rfl rfl rfl (fun h5 => ?_) fun h5 => ?_
    ·have h5 : y = v := Int.ofNat_inj.1 (by simpa using h5)
     rw [h5] at hup
     rw [show (y == v) = true from by rw [h5]; exact beq_self_eq_true _, Bool.true_and] at hfj
     have h5i : (((y : Nat) : Int) == ((v : Nat) : Int)) = true := by rw [h5]; exact beq_self_eq_true _
     repeat (first | refine zck rfl ?_ | refine za2 rfl ?_ | refine zaw rfl ?_)
     refine zak (id := nx) (sp := ck) (off := 0) rfl k5 (Nat.lt_succ_self _) rfl ?_
     repeat (first | refine zck rfl ?_ | refine za2 rfl ?_ | refine zaf rfl rfl ?_ | refine zb0 rfl rfl (by omega) (by assumption) rfl ?_)
     refine zcv rfl rfl (by show some (AV.bool (decide (gZ o x ≥ gZ o v))) = _; rw [decide_eq_false (by omega)]) ?_
     repeat (first | refine za0 rfl ?_ | refine za3 ?_ | refine za1 ?_ | refine zad ?_ | refine zbp rfl ?_ | refine za2 rfl ?_ | refine zat rfl rfl ?_)
     cases hfb : fndL o v (E.take j) with
     | true =>
      rw [hfb, Bool.true_or] at hfj
      repeat (first | refine za0 rfl ?_ | refine za3 ?_ | refine za1 ?_ | refine zb2 ?_ | refine zj7 rfl rfl ?_ | refine o_gt rfl ?_ | refine za2 rfl ?_ | refine zat rfl rfl ?_ | refine zay (op := .add) rfl rfl rfl ?_)
      rw [w2]
      exact zah (show E.length - (j + 1) < E.length - j by omega) (za7 (.cons rfl (.cons rfl (.cons rfl (.cons rfl (.cons rfl (.cons rfl (.cons rfl (.cons rfl (.cons rfl (.cons rfl (.cons rfl .nil)))))))))))) ⟨j + 1, _, _, _, rfl, hlt2, by rw [hfj]⟩
     | false =>
      rw [hfb, Bool.false_or] at hfj
      repeat (first | refine zck rfl ?_ | refine zaw rfl ?_)
      refine zak (id := nx) (sp := ck) (off := 0 + 1) rfl k5 (Nat.lt_succ_self _) rfl ?_
      repeat (first | refine zck rfl ?_ | refine za2 rfl ?_)
      refine ziq rfl rfl (by show some (AV.bool (((y : Nat) : Int) == ((v : Nat) : Int))) = _; rw [h5i]) ?_
      repeat (first | refine zck rfl ?_ | refine za2 rfl ?_ | refine zaw rfl ?_)
      refine zak (id := nx) (sp := ck) (off := 0) rfl k5 (Nat.lt_succ_self _) rfl ?_
      repeat (first | refine zck rfl ?_ | refine za2 rfl ?_ | refine zaf rfl rfl ?_ | refine zay (op := .sub) rfl rfl rfl ?_ | refine zb0 rfl rfl (by omega) (by assumption) rfl ?_)
      rw [w3]
      refine zao rfl rfl rfl (fun h6 => ?_) fun h6 => ?_
      ·rw [show (gZ o x == gZ o v - 1) = true from h6] at hfj
       repeat (first | refine za0 rfl ?_ | refine za3 ?_ | refine za1 ?_ | refine zb2 ?_ | refine zck rfl ?_ | refine za2 rfl ?_ | refine zat rfl rfl ?_ | refine zas rfl rfl ?_ | refine zay (op := .add) rfl rfl rfl ?_)
       rw [w2]
       exact zah (show E.length - (j + 1) < E.length - j by omega) (za7 (.cons rfl (.cons rfl (.cons rfl (.cons rfl (.cons rfl (.cons rfl (.cons rfl (.cons rfl (.cons rfl (.cons rfl (.cons rfl .nil)))))))))))) ⟨j + 1, _, _, _, rfl, hlt2, by rw [hfj]⟩
      ·rw [show (gZ o x == gZ o v - 1) = false from h6] at hfj
       repeat (first | refine za0 rfl ?_ | refine za3 ?_ | refine za1 ?_ | refine zb2 ?_ | refine zck rfl ?_ | refine za2 rfl ?_ | refine zat rfl rfl ?_ | refine zas rfl rfl ?_ | refine zay (op := .add) rfl rfl rfl ?_)
       rw [w2]
       exact zah (show E.length - (j + 1) < E.length - j by omega) (za7 (.cons rfl (.cons rfl (.cons rfl (.cons rfl (.cons rfl (.cons rfl (.cons rfl (.cons rfl (.cons rfl (.cons rfl (.cons rfl .nil)))))))))))) ⟨j + 1, _, _, _, rfl, hlt2, by rw [hfj]⟩
    ·have h5 : ¬ y = v := fun e => (show ¬ ((y : Nat) : Int) = (v : Nat) by simpa using h5) (by rw [e])
     rw [show (y == v) = false from beq_eq_false_iff_ne.2 h5, Bool.false_and, Bool.or_false] at hfj
     have h5i : (((y : Nat) : Int) == ((v : Nat) : Int)) = false := beq_eq_false_iff_ne.2 fun e => h5 (Int.ofNat_inj.1 e)
     repeat (first | refine za0 rfl ?_ | refine za3 ?_ | refine za1 ?_ | refine zad ?_ | refine zbp rfl ?_ | refine zj7 rfl rfl ?_ | refine za2 rfl ?_ | refine zas rfl rfl ?_)
     cases hfb : fndL o v (E.take j) with
     | true =>
      rw [hfb] at hfj
      repeat (first | refine za0 rfl ?_ | refine za3 ?_ | refine za1 ?_ | refine zb2 ?_ | refine zj7 rfl rfl ?_ | refine o_gt rfl ?_ | refine za2 rfl ?_ | refine zat rfl rfl ?_ | refine zay (op := .add) rfl rfl rfl ?_)
      rw [w2]
      exact zah (show E.length - (j + 1) < E.length - j by omega) (za7 (.cons rfl (.cons rfl (.cons rfl (.cons rfl (.cons rfl (.cons rfl (.cons rfl (.cons rfl (.cons rfl (.cons rfl (.cons rfl .nil)))))))))))) ⟨j + 1, _, _, _, rfl, hlt2, by rw [hfj]⟩
     | false =>
      rw [hfb] at hfj
      repeat (first | refine zck rfl ?_ | refine zaw rfl ?_)
      refine zak (id := nx) (sp := ck) (off := 0 + 1) rfl k5 (Nat.lt_succ_self _) rfl ?_
      repeat (first | refine zck rfl ?_ | refine za2 rfl ?_)
      refine zcv rfl rfl (by show some (AV.bool (((y : Nat) : Int) == ((v : Nat) : Int))) = _; rw [h5i]) ?_
      repeat (first | refine za0 rfl ?_ | refine za3 ?_ | refine za1 ?_ | refine zb2 ?_ | refine zck rfl ?_ | refine zj7 rfl rfl ?_ | refine za2 rfl ?_ | refine zas rfl rfl ?_ | refine zay (op := .add) rfl rfl rfl ?_)
      rw [w2]
      exact zah (show E.length - (j + 1) < E.length - j by omega) (za7 (.cons rfl (.cons rfl (.cons rfl (.cons rfl (.cons rfl (.cons rfl (.cons rfl (.cons rfl (.cons rfl (.cons rfl (.cons rfl .nil)))))))))))) ⟨j + 1, _, _, _, rfl, hlt2, by rw [hfj]⟩
   ·have hje : j = E.length := by
     have h5 : ¬ ((j : Nat) : Int) < ((E.length : Nat) : Int) := of_decide_eq_false h4
     omega
    subst hje
    rw [List.take_length, hfe]
    repeat (first | refine za6 ?_ | refine za3 ?_ | refine za1 ?_ | refine zbp rfl ?_ | refine zb4 ?_ | refine zac ?_)
    refine zbx ?_
    repeat (first | refine za6 ?_ | refine za0 rfl ?_ | refine za1 ?_ | refine zb3 ?_ | refine za2 rfl ?_)
    refine zcv rfl rfl (by show some (AV.bool (decide (gZ o v < 0))) = _; rw [decide_eq_false (by omega)]) ?_
    repeat (first | refine za0 rfl ?_ | refine za3 ?_ | refine za1 ?_ | refine zb2 ?_ | refine zad ?_ | refine zbp rfl ?_ | refine zck rfl ?_ | refine za2 rfl ?_ | refine zas rfl rfl ?_ | refine zml rfl rfl ?_ | refine zay (op := .add) rfl rfl rfl ?_)
    rw [w1]
    exact zah (show m - (v + 1) < m - v by omega) (za7 (.cons rfl (.cons rfl (.cons rfl (.cons rfl (.cons rfl .nil)))))) ⟨v + 1, _, _, _, rfl, hlt, rfl⟩
  ·repeat (first | refine za6 ?_ | refine za3 ?_ | refine za1 ?_ | refine zbp rfl ?_ | refine zb4 ?_ | refine zac ?_)
   refine zbx ?_
   repeat (first | refine za6 ?_ | refine za0 rfl ?_ | refine za1 ?_ | refine zb3 ?_)
   refine zau rfl rfl zhk (fun h => Bool.noConfusion (show false = true from h)) ?_
   repeat (first | refine za3 ?_ | refine za1 ?_ | refine zax ?_ | refine za2 rfl ?_)
   exact zav ⟨.inr rfl, _, rfl, rfl⟩
end Go.Proofs.Ytoagikifehmlpaa
