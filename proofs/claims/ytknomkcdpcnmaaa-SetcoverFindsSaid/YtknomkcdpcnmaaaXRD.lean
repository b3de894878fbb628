/-
  THE SETS THAT ARE NEEDED, OF THE REFERENCE: Needed.
-/
import Derived.Test.YtknomkcdpcnmaaaXRC
namespace Go.Proofs.Ytknomkcdpcnmaaa
open Go Go.Am
def b32_0 : IC := .seq (.seq (.region [⟨(some 23), .mov (.t 9), none⟩,
  ⟨(some 24), .faddr 1 (.t 1), none⟩,
  ⟨(some 25), .load none (.t 24), none⟩,
  ⟨(some 26), .len false (.t 25), none⟩,
  ⟨(some 27), .bin .lss (.t 23) (.t 26), none⟩] none)
 (.cond (.t 27) (.skip)
 (.exit 0)))
 (.seq (.block 1 (.region [⟨(some 30), .mov (.t 7), none⟩,
  ⟨(some 31), .mov (.t 9), none⟩,
  ⟨(some 32), .bslice 1 1 [.int .i64 0] [(0, 1, (.t 31))], none⟩,
  ⟨(some 33), .append 1 8 [.int .i64 0] (.t 30) (.t 32), none⟩,
  ⟨(some 7), .mov (.t 33), none⟩] none))
 (.region [⟨(some 28), .mov (.t 9), none⟩,
  ⟨(some 29), .bin .add (.t 28) (.c (.int .i64 1)), none⟩,
  ⟨(some 9), .mov (.t 29), none⟩] none))
def b32_2 : IC := .seq (.seq (.region [⟨(some 34), .mov (.t 10), none⟩,
  ⟨(some 35), .mov (.t 7), none⟩,
  ⟨(some 36), .len false (.t 35), none⟩,
  ⟨(some 37), .bin .lss (.t 34) (.t 36), none⟩] none)
 (.cond (.t 37) (.skip)
 (.exit 2)))
 (.seq (.block 3 (.seq (.region [⟨(some 40), .load (some 2) (.t 1), none⟩,
  ⟨(some 41), .mov (.t 7), none⟩,
  ⟨(some 42), .mov (.t 10), none⟩,
  ⟨(some 43), .call (.c (.fn 61 [] [])) [(.t 41), (.t 42)], none⟩,
  ⟨(some 44), .call (.c (.fn 60 [] [])) [(.t 40), (.t 43)], none⟩,
  ⟨(some 45), .faddr 0 (.t 1), none⟩,
  ⟨(some 46), .load none (.t 45), none⟩,
  ⟨(some 47), .call (.c (.fn 54 [] [])) [(.t 46)], none⟩,
  ⟨(some 48), .bin .neq (.t 44) (.t 47), none⟩] (some [[], [], [], [1, 2], [0, 3, 3], [], [5], [6, 4], [4, 7]]))
 (.cond (.t 48) (.region [⟨(some 49), .mov (.t 8), none⟩,
  ⟨(some 50), .mov (.t 10), none⟩,
  ⟨(some 51), .bslice 1 1 [.int .i64 0] [(0, 1, (.t 50))], none⟩,
  ⟨(some 52), .append 1 8 [.int .i64 0] (.t 49) (.t 51), none⟩,
  ⟨(some 8), .mov (.t 52), none⟩] none)
 (.skip))))
 (.region [⟨(some 38), .mov (.t 10), none⟩,
  ⟨(some 39), .bin .add (.t 38) (.c (.int .i64 1)), none⟩,
  ⟨(some 10), .mov (.t 39), none⟩] none))
-- pneumatic/pneumaticref09.Needed
def ic32 : IC := .seq (.region [⟨(some 1), .box (.t 0), none⟩,
  ⟨(some 2), .mov (.c (.nils)), none⟩,
  ⟨(some 3), .mov (.c (.int .i64 0)), none⟩] none)
 (.seq (.seq (.region [⟨(some 11), .load (some 2) (.t 1), none⟩,
  ⟨(some 12), .call (.c (.fn 38 [] [])) [(.t 11)], none⟩,
  ⟨(some 4), .mov (.t 12), none⟩] none)
 (.seq (.region [⟨(some 13), .mov (.t 4), none⟩,
  ⟨(some 14), .bin .neq (.t 13) (.c (.int .i64 0)), none⟩] none)
 (.cond (.t 14) (.seq (.region [⟨(some 15), .mov (.t 4), none⟩,
  ⟨(some 2), .mov (.c (.nils)), none⟩,
  ⟨(some 3), .mov (.t 15), none⟩] none)
 (.ret))
 (.skip))))
 (.seq (.seq (.region [⟨(some 17), .load (some 2) (.t 1), none⟩,
  ⟨(some 18), .call (.c (.fn 59 [] [])) [(.t 17)], none⟩,
  ⟨(some 16), .mov (.t 18), none⟩,
  ⟨(some 19), .extract (.t 16) 0, none⟩,
  ⟨(some 20), .extract (.t 16) 1, none⟩,
  ⟨(some 5), .mov (.t 19), none⟩,
  ⟨(some 6), .mov (.t 20), none⟩] none)
 (.seq (.region [⟨(some 21), .mov (.t 6), none⟩,
  ⟨(some 22), .un .not (.t 21), none⟩] none)
 (.cond (.t 22) (.seq (.region [⟨(some 2), .mov (.c (.nils)), none⟩,
  ⟨(some 3), .mov (.c (.int .i64 6)), none⟩] none)
 (.ret))
 (.skip))))
 (.seq (.region [⟨(some 7), .mov (.c (.nils)), none⟩,
  ⟨(some 8), .mov (.c (.nils)), none⟩] none)
 (.seq (.seq (.region [⟨(some 9), .mov (.c (.int .i64 0)), none⟩] none)
 (.block 0 (.loop b32_0)))
 (.seq (.seq (.region [⟨(some 10), .mov (.c (.int .i64 0)), none⟩] none)
 (.block 2 (.loop b32_2)))
 (.seq (.region [⟨(some 53), .mov (.t 8), none⟩,
  ⟨(some 2), .mov (.t 53), none⟩,
  ⟨(some 3), .mov (.c (.int .i64 0)), none⟩] none)
 (.ret)))))))
theorem fn32 : env0.fn 32 = some ⟨54, ic32, [.t 2, .t 3]⟩ := by kernel_rfl
def zc8 (m : Nat) : List Int := (List.range m).map fun k : Nat => ((k : Nat) : Int)
theorem zca (m : Nat) : zc8 (m + 1) = zc8 m ++ [(m : Int)] := by
 unfold zc8
 rw [List.range_succ, List.map_append]
 rfl
theorem zfy (m : Nat) : (zc8 m).length = m := by unfold zc8; rw [List.length_map, List.length_range]
theorem zqq {m : Nat} {z : Int} (h : z ∈ zc8 m) : 0 ≤ z ∧ z < m := by
 unfold zc8 at h
 obtain ⟨k, hk, rfl⟩ := List.mem_map.1 h
 have := List.mem_range.1 hk
 omega
def zrv (n : Int) (s : List (BitVec 64)) (i : Nat) : List Int := ((List.range i).filter fun k => uni s ((zc8 s.length).eraseIdx k) != zd3 n).map fun k : Nat => ((k : Nat) : Int)
theorem zuc (n : Int) (s : List (BitVec 64)) (i : Nat) : zrv n s (i + 1) = if (uni s ((zc8 s.length).eraseIdx i) != zd3 n) = true then zrv n s i ++ [(i : Int)] else zrv n s i := by
 unfold zrv
 rw [List.range_succ, List.filter_append, List.map_append, List.filter_cons]
 split
 ·rfl
 ·rw [List.filter_nil, List.map_nil, List.append_nil]
theorem zq0 (n : Int) (s : List (BitVec 64)) (i : Nat) : (zrv n s i).length ≤ i := by
 unfold zrv
 rw [List.length_map]
 exact Nat.le_trans (List.length_filter_le ..) (by rw [List.length_range]; exact Nat.le_refl _)
def neeW (n : Int) (s : List (BitVec 64)) : AV := if ze8 n s = 0 then (match zk3 n s with | some _ => .tup [vsI (zrv n s s.length), .int .i64 0] | none => .tup [.vs [], .int .i64 6]) else .tup [.vs [], .int .i64 (ze8 n s)]
set_option maxHeartbeats 4000000 in
theorem needed32 (n : Int) (s : List (BitVec 64)) (hs : ze8 n s = 0 → s.length ≤ 12) : PF Try.prog 32 [cF n s] (neeW n s) := by
 have pC := znw n s
 have hcl := zcj s
 refine zc2 env0_ok fn32 [(0, cF n s)] (by show 1 ≤ 54; decide) rfl fun w0 N0 => ?_
 unfold ic32 neeW
 refine zan (za1 rfl (zbf (cs := [.int .i64 n, .vs (cUs s)]) rfl rfl (zab rfl (zab rfl (zai (zaj ?_))))))
 refine zd8 [] [(0, 0, [.int .i64 n, .vs (cUs s)])] [(1, .vptr [.int .i64 n, .vs (cUs s)])] rfl (.cons rfl rfl .nil) .nil (.cons rfl (.fptr rfl rfl) .nil) ?_
 repeat (first | refine zan ?_ | refine za1 rfl ?_ | refine zai ?_ | refine zaj ?_ | refine zbe ?_ | refine zak ?_ | refine zat ?_ | refine zbl rfl ?_ | refine zbk rfl ?_ | refine zb2 ?_ | refine zbc ?_ | refine zb1 ?_ | refine za4 ?_ | refine za2 rfl ?_ | refine za3 ?_ | refine za5 ?_ | refine zbn rfl ?_ | refine zbs rfl rfl ?_ | refine zbz rfl ?_ | refine zab rfl ?_ | refine zax rfl rfl ?_ | refine zap rfl rfl rfl rfl ?_ | refine zaq rfl rfl rfl rfl rfl rfl rfl ?_ | refine zae rfl ?_ | refine za6 rfl rfl rfl ?_ | refine za0 rfl rfl rfl ?_ | refine za9 rfl rfl rfl rfl ?_ | refine zar ?_ | refine zao rfl rfl ?_ | refine zam rfl rfl ?_ | refine zc0 rfl rfl ?_ | refine zbd rfl rfl ?_ | refine zav rfl rfl ?_ | refine zac rfl rfl ?_ | refine zbf rfl rfl ?_ | refine zaa rfl rfl rfl ?_ | refine zaw rfl rfl ?_ | refine zal rfl rfl rfl rfl ?_ | refine za8 rfl rfl rfl rfl ?_ | refine zag rfl rfl rfl rfl ?_ | refine zb5 rfl rfl ?_ | refine zb4 rfl rfl ?_ | refine za7 rfl rfl ?_ | refine zb8 ?_ | refine zah env0_ok rfl rfl rfl ?_ | refine zad (op := .add) rfl rfl rfl ?_ | refine zad (op := .sub) rfl rfl rfl ?_ | refine zb7 rfl rfl rfl ?_ | refine zb6 rfl rfl rfl ?_ | refine zb3 rfl rfl rfl ?_ | refine zaz rfl rfl rfl ?_ | refine zb0 rfl rfl (by omega) (by assumption) rfl ?_ | refine za0 rfl rfl (decide_eq_true ⟨by omega, by omega⟩) ?_ | refine zau rfl rfl (by omega) (by omega) ?_ | refine zaf rfl rfl rfl ?_ | refine zba rfl ?_ | refine zb9 rfl ?_)
 refine zbw rfl rfl pC (fun h => Bool.noConfusion (show false = true from h)) ?_
 by_cases hc : ze8 n s = 0
 ·rw [if_pos hc, hc]
  have hs := hs hc
  obtain ⟨n0, n1, s1, _⟩ := zg2 hc
  have pA := all54 n0
  have pF := ztf n s hc hs
  unfold firV at pF
  repeat (first | refine zan ?_ | refine za1 rfl ?_ | refine zai ?_ | refine zaj ?_ | refine zbe ?_ | refine zak ?_ | refine zat ?_ | refine zbl rfl ?_ | refine zbk rfl ?_ | refine zb2 ?_ | refine zbc ?_ | refine zb1 ?_ | refine za4 ?_ | refine za2 rfl ?_ | refine za3 ?_ | refine za5 ?_ | refine zbn rfl ?_ | refine zbs rfl rfl ?_ | refine zbz rfl ?_ | refine zab rfl ?_ | refine zax rfl rfl ?_ | refine zap rfl rfl rfl rfl ?_ | refine zaq rfl rfl rfl rfl rfl rfl rfl ?_ | refine zae rfl ?_ | refine za6 rfl rfl rfl ?_ | refine za0 rfl rfl rfl ?_ | refine za9 rfl rfl rfl rfl ?_ | refine zar ?_ | refine zao rfl rfl ?_ | refine zam rfl rfl ?_ | refine zc0 rfl rfl ?_ | refine zbd rfl rfl ?_ | refine zav rfl rfl ?_ | refine zac rfl rfl ?_ | refine zbf rfl rfl ?_ | refine zaa rfl rfl rfl ?_ | refine zaw rfl rfl ?_ | refine zal rfl rfl rfl rfl ?_ | refine za8 rfl rfl rfl rfl ?_ | refine zag rfl rfl rfl rfl ?_ | refine zb5 rfl rfl ?_ | refine zb4 rfl rfl ?_ | refine za7 rfl rfl ?_ | refine zb8 ?_ | refine zah env0_ok rfl rfl rfl ?_ | refine zad (op := .add) rfl rfl rfl ?_ | refine zad (op := .sub) rfl rfl rfl ?_ | refine zb7 rfl rfl rfl ?_ | refine zb6 rfl rfl rfl ?_ | refine zb3 rfl rfl rfl ?_ | refine zaz rfl rfl rfl ?_ | refine zb0 rfl rfl (by omega) (by assumption) rfl ?_ | refine za0 rfl rfl (decide_eq_true ⟨by omega, by omega⟩) ?_ | refine zau rfl rfl (by omega) (by omega) ?_ | refine zaf rfl rfl rfl ?_ | refine zba rfl ?_ | refine zb9 rfl ?_)
  cases hF : zk3 n s with
  | none =>
   rw [hF] at pF
   refine zbw rfl rfl pF (fun h => Bool.noConfusion (show false = true from h)) ?_
   repeat (first | refine zan ?_ | refine za1 rfl ?_ | refine zai ?_ | refine zaj ?_ | refine zbe ?_ | refine zak ?_ | refine zat ?_ | refine zbl rfl ?_ | refine zbk rfl ?_ | refine zb2 ?_ | refine zbc ?_ | refine zb1 ?_ | refine za4 ?_ | refine za2 rfl ?_ | refine za3 ?_ | refine za5 ?_ | refine zbn rfl ?_ | refine zbs rfl rfl ?_ | refine zbz rfl ?_ | refine zab rfl ?_ | refine zax rfl rfl ?_ | refine zap rfl rfl rfl rfl ?_ | refine zaq rfl rfl rfl rfl rfl rfl rfl ?_ | refine zae rfl ?_ | refine za6 rfl rfl rfl ?_ | refine za0 rfl rfl rfl ?_ | refine za9 rfl rfl rfl rfl ?_ | refine zar ?_ | refine zao rfl rfl ?_ | refine zam rfl rfl ?_ | refine zc0 rfl rfl ?_ | refine zbd rfl rfl ?_ | refine zav rfl rfl ?_ | refine zac rfl rfl ?_ | refine zbf rfl rfl ?_ | refine zaa rfl rfl rfl ?_ | refine zaw rfl rfl ?_ | refine zal rfl rfl rfl rfl ?_ | refine za8 rfl rfl rfl rfl ?_ | refine zag rfl rfl rfl rfl ?_ | refine zb5 rfl rfl ?_ | refine zb4 rfl rfl ?_ | refine za7 rfl rfl ?_ | refine zb8 ?_ | refine zah env0_ok rfl rfl rfl ?_ | refine zad (op := .add) rfl rfl rfl ?_ | refine zad (op := .sub) rfl rfl rfl ?_ | refine zb7 rfl rfl rfl ?_ | refine zb6 rfl rfl rfl ?_ | refine zb3 rfl rfl rfl ?_ | refine zaz rfl rfl rfl ?_ | refine zb0 rfl rfl (by omega) (by assumption) rfl ?_ | refine za0 rfl rfl (decide_eq_true ⟨by omega, by omega⟩) ?_ | refine zau rfl rfl (by omega) (by omega) ?_ | refine zaf rfl rfl rfl ?_ | refine zba rfl ?_ | refine zb9 rfl ?_)
   exact zbj ⟨.inr rfl, _, rfl, rfl⟩
  | some c =>
   rw [hF] at pF
   refine zbw rfl rfl pF (fun h => Bool.noConfusion (show false = true from h)) ?_
   repeat (first | refine zan ?_ | refine za1 rfl ?_ | refine zai ?_ | refine zaj ?_ | refine zbe ?_ | refine zak ?_ | refine zat ?_ | refine zbl rfl ?_ | refine zbk rfl ?_ | refine zb2 ?_ | refine zbc ?_ | refine zb1 ?_ | refine za4 ?_ | refine za2 rfl ?_ | refine za3 ?_ | refine za5 ?_ | refine zbn rfl ?_ | refine zbs rfl rfl ?_ | refine zbz rfl ?_ | refine zab rfl ?_ | refine zax rfl rfl ?_ | refine zap rfl rfl rfl rfl ?_ | refine zaq rfl rfl rfl rfl rfl rfl rfl ?_ | refine zae rfl ?_ | refine za6 rfl rfl rfl ?_ | refine za0 rfl rfl rfl ?_ | refine za9 rfl rfl rfl rfl ?_ | refine zar ?_ | refine zao rfl rfl ?_ | refine zam rfl rfl ?_ | refine zc0 rfl rfl ?_ | refine zbd rfl rfl ?_ | refine zav rfl rfl ?_ | refine zac rfl rfl ?_ | refine zbf rfl rfl ?_ | refine zaa rfl rfl rfl ?_ | refine zaw rfl rfl ?_ | refine zal rfl rfl rfl rfl ?_ | refine za8 rfl rfl rfl rfl ?_ | refine zag rfl rfl rfl rfl ?_ | refine zb5 rfl rfl ?_ | refine zb4 rfl rfl ?_ | refine za7 rfl rfl ?_ | refine zb8 ?_ | refine zah env0_ok rfl rfl rfl ?_ | refine zad (op := .add) rfl rfl rfl ?_ | refine zad (op := .sub) rfl rfl rfl ?_ | refine zb7 rfl rfl rfl ?_ | refine zb6 rfl rfl rfl ?_ | refine zb3 rfl rfl rfl ?_ | refine zaz rfl rfl rfl ?_ | refine zb0 rfl rfl (by omega) (by assumption) rfl ?_ | refine za0 rfl rfl (decide_eq_true ⟨by omega, by omega⟩) ?_ | refine zau rfl rfl (by omega) (by omega) ?_ | refine zaf rfl rfl rfl ?_ | refine zba rfl ?_ | refine zb9 rfl ?_)
   refine zht 7 1 rfl ?_
   refine zcd (fun mm S => ∃ i, mm = s.length - i ∧ i ≤ s.length ∧
     S = st 54 [(1, .vptr [.int .i64 n, .vs (cUs s)]), (7, .ms 0 0 1 0 i none), (8, .nils), (9, .int .i64 (i : Nat))] [(0, 0, .cells ((zc8 i).map (AV.int .i64)))] 1 1) s.length
    (zch [(some (0, 1), [])] [] rfl rfl rfl .nil (.cons rfl .nil .nil) (l' := [(1, .vptr [.int .i64 n, .vs (cUs s)]), (7, .ms 0 0 1 0 0 none), (8, .nils), (9, .int .i64 ((0 : Nat) : Int))]) (.cons rfl (.same rfl) (.cons rfl (.ms rfl) (.cons rfl (.same rfl) (.cons rfl (.same rfl) .nil))))) ⟨0, rfl, Nat.zero_le _, rfl⟩ ?_
   rintro mm S ⟨i, rfl, hi, rfl⟩
   have hul := zfy i
   unfold b32_0
   repeat (first | refine zan ?_ | refine za1 rfl ?_ | refine zai ?_ | refine zaj ?_ | refine zbe ?_ | refine zak ?_ | refine zat ?_ | refine zbl rfl ?_ | refine zbk rfl ?_ | refine zb2 ?_ | refine zbc ?_ | refine zb1 ?_ | refine za4 ?_ | refine za2 rfl ?_ | refine za3 ?_ | refine za5 ?_ | refine zbn rfl ?_ | refine zbs rfl rfl ?_ | refine zbz rfl ?_ | refine zab rfl ?_ | refine zax rfl rfl ?_ | refine zap rfl rfl rfl rfl ?_ | refine zaq rfl rfl rfl rfl rfl rfl rfl ?_ | refine zae rfl ?_ | refine za6 rfl rfl rfl ?_ | refine za0 rfl rfl rfl ?_ | refine za9 rfl rfl rfl rfl ?_ | refine zar ?_ | refine zao rfl rfl ?_ | refine zam rfl rfl ?_ | refine zc0 rfl rfl ?_ | refine zbd rfl rfl ?_ | refine zav rfl rfl ?_ | refine zac rfl rfl ?_ | refine zbf rfl rfl ?_ | refine zaa rfl rfl rfl ?_ | refine zaw rfl rfl ?_ | refine zal rfl rfl rfl rfl ?_ | refine za8 rfl rfl rfl rfl ?_ | refine zag rfl rfl rfl rfl ?_ | refine zb5 rfl rfl ?_ | refine zb4 rfl rfl ?_ | refine za7 rfl rfl ?_ | refine zb8 ?_ | refine zah env0_ok rfl rfl rfl ?_ | refine zad (op := .add) rfl rfl rfl ?_ | refine zad (op := .sub) rfl rfl rfl ?_ | refine zb7 rfl rfl rfl ?_ | refine zb6 rfl rfl rfl ?_ | refine zb3 rfl rfl rfl ?_ | refine zaz rfl rfl rfl ?_ | refine zb0 rfl rfl (by omega) (by assumption) rfl ?_ | refine za0 rfl rfl (decide_eq_true ⟨by omega, by omega⟩) ?_ | refine zau rfl rfl (by omega) (by omega) ?_ | refine zaf rfl rfl rfl ?_ | refine zba rfl ?_ | refine zb9 rfl ?_)
   refine zbr rfl rfl rfl (fun h3 => ?_) fun h3 => ?_
   ·have hlt : i < s.length := by
     have : ((i : Nat) : Int) < ((cUs s).length : Nat) := of_decide_eq_true h3
     omega
    have w1 : IntKind.wrap .i64 (((i : Nat) : Int) + 1) = ((i + 1 : Nat) : Int) := zbo i (by omega)
    have hu := zca i
    generalize zc8 i = out at *
    repeat (first | refine zan ?_ | refine za1 rfl ?_ | refine zai ?_ | refine zaj ?_ | refine zbe ?_ | refine zak ?_ | refine zat ?_ | refine zbl rfl ?_ | refine zbk rfl ?_ | refine zb2 ?_ | refine zbc ?_ | refine zb1 ?_ | refine za4 ?_ | refine za2 rfl ?_ | refine za3 ?_ | refine za5 ?_ | refine zbn rfl ?_ | refine zbs rfl rfl ?_ | refine zbz rfl ?_ | refine zab rfl ?_ | refine zax rfl rfl ?_ | refine zap rfl rfl rfl rfl ?_ | refine zaq rfl rfl rfl rfl rfl rfl rfl ?_ | refine zae rfl ?_ | refine za6 rfl rfl rfl ?_ | refine za0 rfl rfl rfl ?_ | refine za9 rfl rfl rfl rfl ?_ | refine zar ?_ | refine zao rfl rfl ?_ | refine zam rfl rfl ?_ | refine zc0 rfl rfl ?_ | refine zbd rfl rfl ?_ | refine zav rfl rfl ?_ | refine zac rfl rfl ?_ | refine zbf rfl rfl ?_ | refine zaa rfl rfl rfl ?_ | refine zaw rfl rfl ?_ | refine za8 rfl rfl rfl rfl ?_ | refine zag rfl rfl rfl rfl ?_ | refine zb5 rfl rfl ?_ | refine zb4 rfl rfl ?_ | refine za7 rfl rfl ?_ | refine zb8 ?_ | refine zah env0_ok rfl rfl rfl ?_ | refine zad (op := .add) rfl rfl rfl ?_ | refine zad (op := .sub) rfl rfl rfl ?_ | refine zb7 rfl rfl rfl ?_ | refine zb6 rfl rfl rfl ?_ | refine zb3 rfl rfl rfl ?_ | refine zaz rfl rfl rfl ?_ | refine zb0 rfl rfl (by omega) (by assumption) rfl ?_ | refine za0 rfl rfl (decide_eq_true ⟨by omega, by omega⟩) ?_ | refine zau rfl rfl (by omega) (by omega) ?_ | refine zaf rfl rfl rfl ?_ | refine zba rfl ?_ | refine zb9 rfl ?_)
    refine zcv [[.int .i64 (i : Nat)]] rfl rfl (zcf (ys := []) zbp rfl (fun x hx => by obtain rfl := List.mem_singleton.1 hx; rfl)) (fun h => Nat.noConfusion h) rfl (by decide) (by (repeat (first | rw [zbh, if_pos rfl] | rw [zbh, if_neg (by omega)])); try rfl) (by rw [List.length_map, Nat.mul_one, hul]) (by show _ + 1 ≤ _; omega) ?_
    repeat (first | refine zan ?_ | refine za1 rfl ?_ | refine zai ?_ | refine zaj ?_ | refine zbe ?_ | refine zak ?_ | refine zat ?_ | refine zbl rfl ?_ | refine zbk rfl ?_ | refine zb2 ?_ | refine zbc ?_ | refine zb1 ?_ | refine za4 ?_ | refine za2 rfl ?_ | refine za3 ?_ | refine za5 ?_ | refine zbn rfl ?_ | refine zbs rfl rfl ?_ | refine zbz rfl ?_ | refine zab rfl ?_ | refine zax rfl rfl ?_ | refine zap rfl rfl rfl rfl ?_ | refine zaq rfl rfl rfl rfl rfl rfl rfl ?_ | refine zae rfl ?_ | refine za6 rfl rfl rfl ?_ | refine za0 rfl rfl rfl ?_ | refine za9 rfl rfl rfl rfl ?_ | refine zar ?_ | refine zao rfl rfl ?_ | refine zam rfl rfl ?_ | refine zc0 rfl rfl ?_ | refine zbd rfl rfl ?_ | refine zav rfl rfl ?_ | refine zac rfl rfl ?_ | refine zbf rfl rfl ?_ | refine zaa rfl rfl rfl ?_ | refine zaw rfl rfl ?_ | refine zal rfl rfl rfl rfl ?_ | refine za8 rfl rfl rfl rfl ?_ | refine zag rfl rfl rfl rfl ?_ | refine zb5 rfl rfl ?_ | refine zb4 rfl rfl ?_ | refine za7 rfl rfl ?_ | refine zb8 ?_ | refine zah env0_ok rfl rfl rfl ?_ | refine zad (op := .add) rfl rfl rfl ?_ | refine zad (op := .sub) rfl rfl rfl ?_ | refine zb7 rfl rfl rfl ?_ | refine zb6 rfl rfl rfl ?_ | refine zb3 rfl rfl rfl ?_ | refine zaz rfl rfl rfl ?_ | refine zb0 rfl rfl (by omega) (by assumption) rfl ?_ | refine za0 rfl rfl (decide_eq_true ⟨by omega, by omega⟩) ?_ | refine zau rfl rfl (by omega) (by omega) ?_ | refine zaf rfl rfl rfl ?_ | refine zba rfl ?_ | refine zb9 rfl ?_)
    rw [w1]
    exact zbt (show s.length - (i + 1) < s.length - i by omega) (zch [(some (0, 2), (out ++ [(i : Int)]).map (AV.int .i64))] [] rfl rfl rfl .nil (.cons (by rw [zay, if_pos rfl]; rw [List.map_append]; rfl) (.keep (zdj _)) .nil) (l' := [(1, .vptr [.int .i64 n, .vs (cUs s)]), (7, .ms 0 0 1 0 (i + 1) none), (8, .nils), (9, .int .i64 ((i + 1 : Nat) : Int))]) (.cons rfl (.same rfl) (.cons rfl (.ms rfl) (.cons rfl (.same rfl) (.cons rfl (.same rfl) .nil))))) ⟨i + 1, rfl, hlt, by rw [hu]; rfl⟩
   ·have hi3 : i = s.length := by
     have : ¬ ((i : Nat) : Int) < ((cUs s).length : Nat) := of_decide_eq_false h3
     omega
    rw [hi3]
    repeat (first | refine zan ?_ | refine za1 rfl ?_ | refine zai ?_ | refine zaj ?_ | refine zbe ?_ | refine zak ?_ | refine zat ?_ | refine zbl rfl ?_ | refine zbk rfl ?_ | refine zb2 ?_ | refine zbc ?_ | refine zb1 ?_ | refine za4 ?_ | refine za2 rfl ?_ | refine za3 ?_ | refine za5 ?_ | refine zbn rfl ?_ | refine zbs rfl rfl ?_ | refine zbz rfl ?_ | refine zab rfl ?_ | refine zax rfl rfl ?_ | refine zap rfl rfl rfl rfl ?_ | refine zaq rfl rfl rfl rfl rfl rfl rfl ?_ | refine zae rfl ?_ | refine za6 rfl rfl rfl ?_ | refine za0 rfl rfl rfl ?_ | refine za9 rfl rfl rfl rfl ?_ | refine zar ?_ | refine zao rfl rfl ?_ | refine zam rfl rfl ?_ | refine zc0 rfl rfl ?_ | refine zbd rfl rfl ?_ | refine zav rfl rfl ?_ | refine zac rfl rfl ?_ | refine zbf rfl rfl ?_ | refine zaa rfl rfl rfl ?_ | refine zaw rfl rfl ?_ | refine zal rfl rfl rfl rfl ?_ | refine za8 rfl rfl rfl rfl ?_ | refine zag rfl rfl rfl rfl ?_ | refine zb5 rfl rfl ?_ | refine zb4 rfl rfl ?_ | refine za7 rfl rfl ?_ | refine zb8 ?_ | refine zah env0_ok rfl rfl rfl ?_ | refine zad (op := .add) rfl rfl rfl ?_ | refine zad (op := .sub) rfl rfl rfl ?_ | refine zb7 rfl rfl rfl ?_ | refine zb6 rfl rfl rfl ?_ | refine zb3 rfl rfl rfl ?_ | refine zaz rfl rfl rfl ?_ | refine zb0 rfl rfl (by omega) (by assumption) rfl ?_ | refine za0 rfl rfl (decide_eq_true ⟨by omega, by omega⟩) ?_ | refine zau rfl rfl (by omega) (by omega) ?_ | refine zaf rfl rfl rfl ?_ | refine zba rfl ?_ | refine zb9 rfl ?_)
    refine zdd ?_
    repeat (first | refine zan ?_ | refine za1 rfl ?_ | refine zai ?_ | refine zaj ?_ | refine zbe ?_ | refine zak ?_ | refine zat ?_ | refine zbl rfl ?_ | refine zbk rfl ?_ | refine zb2 ?_ | refine zbc ?_ | refine zb1 ?_ | refine za4 ?_ | refine za2 rfl ?_ | refine za3 ?_ | refine za5 ?_ | refine zbn rfl ?_ | refine zbs rfl rfl ?_ | refine zbz rfl ?_ | refine zab rfl ?_ | refine zax rfl rfl ?_ | refine zap rfl rfl rfl rfl ?_ | refine zaq rfl rfl rfl rfl rfl rfl rfl ?_ | refine zae rfl ?_ | refine za6 rfl rfl rfl ?_ | refine za0 rfl rfl rfl ?_ | refine za9 rfl rfl rfl rfl ?_ | refine zar ?_ | refine zao rfl rfl ?_ | refine zam rfl rfl ?_ | refine zc0 rfl rfl ?_ | refine zbd rfl rfl ?_ | refine zav rfl rfl ?_ | refine zac rfl rfl ?_ | refine zbf rfl rfl ?_ | refine zaa rfl rfl rfl ?_ | refine zaw rfl rfl ?_ | refine zal rfl rfl rfl rfl ?_ | refine za8 rfl rfl rfl rfl ?_ | refine zag rfl rfl rfl rfl ?_ | refine zb5 rfl rfl ?_ | refine zb4 rfl rfl ?_ | refine za7 rfl rfl ?_ | refine zb8 ?_ | refine zah env0_ok rfl rfl rfl ?_ | refine zad (op := .add) rfl rfl rfl ?_ | refine zad (op := .sub) rfl rfl rfl ?_ | refine zb7 rfl rfl rfl ?_ | refine zb6 rfl rfl rfl ?_ | refine zb3 rfl rfl rfl ?_ | refine zaz rfl rfl rfl ?_ | refine zb0 rfl rfl (by omega) (by assumption) rfl ?_ | refine za0 rfl rfl (decide_eq_true ⟨by omega, by omega⟩) ?_ | refine zau rfl rfl (by omega) (by omega) ?_ | refine zaf rfl rfl rfl ?_ | refine zba rfl ?_ | refine zb9 rfl ?_)
    refine zd8 [] [(0, 0, (zc8 s.length).map (AV.int .i64))] [(1, .vptr [.int .i64 n, .vs (cUs s)]), (7, vsI (zc8 s.length)), (8, .nils), (10, .int .i64 ((0 : Nat) : Int))] rfl (.cons rfl (zdj _) .nil) .nil (.cons rfl (.same rfl) (.cons rfl (.fms0 (xs := vL (zc8 s.length)) rfl (by rw [zc1, zfy]) (zdw _) (zfq _).symm) (.cons rfl (.same rfl) (.cons rfl (.same rfl) .nil)))) ?_
    have hul := zfy s.length
    have humem : ∀ z ∈ zc8 s.length, 0 ≤ z ∧ z < s.length := fun z hz => zqq hz
    have hlR := zuc n s
    have hlL := zq0 n s
    have hvl : ((zc8 s.length).map fun z => ([.int .i64 z] : List AV)).length = s.length := by rw [List.length_map, hul]
    refine zht 8 1 rfl ?_
    refine zcd (fun mm S => ∃ i, mm = s.length - i ∧ i ≤ s.length ∧
      S = st 54 [(1, .vptr [.int .i64 n, .vs (cUs s)]), (7, vsI (zc8 s.length)), (8, .ms 0 0 1 0 (zrv n s i).length none), (10, .int .i64 (i : Nat))] [(0, 0, .cells ((zrv n s i).map (AV.int .i64)))] 1 1) s.length
     (zch [(some (0, 1), [])] [] rfl rfl rfl .nil (.cons rfl .nil .nil) (l' := [(1, .vptr [.int .i64 n, .vs (cUs s)]), (7, vsI (zc8 s.length)), (8, .ms 0 0 1 0 0 none), (10, .int .i64 ((0 : Nat) : Int))]) (.cons rfl (.same rfl) (.cons rfl (.same rfl) (.cons rfl (.ms rfl) (.cons rfl (.same rfl) .nil))))) ⟨0, rfl, Nat.zero_le _, rfl⟩ ?_
    rintro mm S ⟨i, rfl, hi, rfl⟩
    have hli := hlL i
    unfold b32_2
    repeat (first | refine zan ?_ | refine za1 rfl ?_ | refine zai ?_ | refine zaj ?_ | refine zbe ?_ | refine zak ?_ | refine zat ?_ | refine zbl rfl ?_ | refine zbk rfl ?_ | refine zb2 ?_ | refine zbc ?_ | refine zb1 ?_ | refine za4 ?_ | refine za2 rfl ?_ | refine za3 ?_ | refine za5 ?_ | refine zbn rfl ?_ | refine zbs rfl rfl ?_ | refine zbz rfl ?_ | refine zab rfl ?_ | refine zax rfl rfl ?_ | refine zap rfl rfl rfl rfl ?_ | refine zaq rfl rfl rfl rfl rfl rfl rfl ?_ | refine zae rfl ?_ | refine za6 rfl rfl rfl ?_ | refine za0 rfl rfl rfl ?_ | refine za9 rfl rfl rfl rfl ?_ | refine zar ?_ | refine zao rfl rfl ?_ | refine zam rfl rfl ?_ | refine zc0 rfl rfl ?_ | refine zbd rfl rfl ?_ | refine zav rfl rfl ?_ | refine zac rfl rfl ?_ | refine zbf rfl rfl ?_ | refine zaa rfl rfl rfl ?_ | refine zaw rfl rfl ?_ | refine zal rfl rfl rfl rfl ?_ | refine za8 rfl rfl rfl rfl ?_ | refine zag rfl rfl rfl rfl ?_ | refine zb5 rfl rfl ?_ | refine zb4 rfl rfl ?_ | refine za7 rfl rfl ?_ | refine zb8 ?_ | refine zah env0_ok rfl rfl rfl ?_ | refine zad (op := .add) rfl rfl rfl ?_ | refine zad (op := .sub) rfl rfl rfl ?_ | refine zb7 rfl rfl rfl ?_ | refine zb6 rfl rfl rfl ?_ | refine zb3 rfl rfl rfl ?_ | refine zaz rfl rfl rfl ?_ | refine zb0 rfl rfl (by omega) (by assumption) rfl ?_ | refine za0 rfl rfl (decide_eq_true ⟨by omega, by omega⟩) ?_ | refine zau rfl rfl (by omega) (by omega) ?_ | refine zaf rfl rfl rfl ?_ | refine zba rfl ?_ | refine zb9 rfl ?_)
    refine zbr rfl rfl rfl (fun h4 => ?_) fun h4 => ?_
    ·have hlt : i < s.length := by
      have : ((i : Nat) : Int) < (((zc8 s.length).map fun z => ([.int .i64 z] : List AV)).length : Nat) := of_decide_eq_true h4
      omega
     have w1 : IntKind.wrap .i64 (((i : Nat) : Int) + 1) = ((i + 1 : Nat) : Int) := zbo i (by omega)
     have hsu := hlR i
     have pW := zvu (zc8 s.length) (by omega) i (by omega)
     have pU := zvm n s ((zc8 s.length).eraseIdx i) (Nat.le_trans (List.length_eraseIdx_le ..) (by omega)) (fun z hz => humem z (List.mem_of_mem_eraseIdx hz))
     generalize (zc8 s.length).eraseIdx i = c2 at *
     generalize zrv n s i = out at *
     repeat (first | refine zan ?_ | refine za1 rfl ?_ | refine zai ?_ | refine zaj ?_ | refine zbe ?_ | refine zak ?_ | refine zat ?_ | refine zbl rfl ?_ | refine zbk rfl ?_ | refine zb2 ?_ | refine zbc ?_ | refine zb1 ?_ | refine za4 ?_ | refine za2 rfl ?_ | refine za3 ?_ | refine za5 ?_ | refine zbn rfl ?_ | refine zbs rfl rfl ?_ | refine zbz rfl ?_ | refine zab rfl ?_ | refine zax rfl rfl ?_ | refine zap rfl rfl rfl rfl ?_ | refine zaq rfl rfl rfl rfl rfl rfl rfl ?_ | refine zae rfl ?_ | refine za6 rfl rfl rfl ?_ | refine za0 rfl rfl rfl ?_ | refine za9 rfl rfl rfl rfl ?_ | refine zar ?_ | refine zao rfl rfl ?_ | refine zam rfl rfl ?_ | refine zc0 rfl rfl ?_ | refine zbd rfl rfl ?_ | refine zav rfl rfl ?_ | refine zac rfl rfl ?_ | refine zbf rfl rfl ?_ | refine zaa rfl rfl rfl ?_ | refine zaw rfl rfl ?_ | refine zal rfl rfl rfl rfl ?_ | refine za8 rfl rfl rfl rfl ?_ | refine zag rfl rfl rfl rfl ?_ | refine zb5 rfl rfl ?_ | refine zb4 rfl rfl ?_ | refine za7 rfl rfl ?_ | refine zb8 ?_ | refine zad (op := .add) rfl rfl rfl ?_ | refine zad (op := .sub) rfl rfl rfl ?_ | refine zb7 rfl rfl rfl ?_ | refine zb6 rfl rfl rfl ?_ | refine zb3 rfl rfl rfl ?_ | refine zaz rfl rfl rfl ?_ | refine zb0 rfl rfl (by omega) (by assumption) rfl ?_ | refine za0 rfl rfl (decide_eq_true ⟨by omega, by omega⟩) ?_ | refine zau rfl rfl (by omega) (by omega) ?_ | refine zaf rfl rfl rfl ?_ | refine zba rfl ?_ | refine zb9 rfl ?_)
     refine zgk env0_ok [(61, [vsI (zc8 s.length), .int .i64 (i : Nat)], vsI c2), (60, [cF n s, vsI c2], cU (uni s c2)), (54, [.int .i64 n], cU (zd3 n))] (fun x hx => by
      rcases List.mem_cons.1 hx with rfl | hx
      ·exact pW
      rcases List.mem_cons.1 hx with rfl | hx
      ·exact pU
      obtain rfl := List.mem_singleton.1 hx
      exact pA) (fun f => Nat.beq f 61 || (Nat.beq f 60 || Nat.beq f 54)) rfl rfl rfl ?_
     repeat (first | refine zan ?_ | refine za1 rfl ?_ | refine zai ?_ | refine zaj ?_ | refine zbe ?_ | refine zak ?_ | refine zat ?_ | refine zbl rfl ?_ | refine zbk rfl ?_ | refine zb2 ?_ | refine zbc ?_ | refine zb1 ?_ | refine za4 ?_ | refine za2 rfl ?_ | refine za3 ?_ | refine za5 ?_ | refine zbn rfl ?_ | refine zbs rfl rfl ?_ | refine zbz rfl ?_ | refine zab rfl ?_ | refine zax rfl rfl ?_ | refine zap rfl rfl rfl rfl ?_ | refine zaq rfl rfl rfl rfl rfl rfl rfl ?_ | refine zae rfl ?_ | refine za6 rfl rfl rfl ?_ | refine za0 rfl rfl rfl ?_ | refine za9 rfl rfl rfl rfl ?_ | refine zar ?_ | refine zao rfl rfl ?_ | refine zam rfl rfl ?_ | refine zc0 rfl rfl ?_ | refine zbd rfl rfl ?_ | refine zav rfl rfl ?_ | refine zac rfl rfl ?_ | refine zbf rfl rfl ?_ | refine zaa rfl rfl rfl ?_ | refine zaw rfl rfl ?_ | refine zal rfl rfl rfl rfl ?_ | refine za8 rfl rfl rfl rfl ?_ | refine zag rfl rfl rfl rfl ?_ | refine zb5 rfl rfl ?_ | refine zb4 rfl rfl ?_ | refine za7 rfl rfl ?_ | refine zb8 ?_ | refine zah env0_ok rfl rfl rfl ?_ | refine zad (op := .add) rfl rfl rfl ?_ | refine zad (op := .sub) rfl rfl rfl ?_ | refine zb7 rfl rfl rfl ?_ | refine zb6 rfl rfl rfl ?_ | refine zb3 rfl rfl rfl ?_ | refine zaz rfl rfl rfl ?_ | refine zb0 rfl rfl (by omega) (by assumption) rfl ?_ | refine za0 rfl rfl (decide_eq_true ⟨by omega, by omega⟩) ?_ | refine zau rfl rfl (by omega) (by omega) ?_ | refine zaf rfl rfl rfl ?_ | refine zba rfl ?_ | refine zb9 rfl ?_)
     refine zbw rfl rfl zcz (fun h => Bool.noConfusion (show false = true from h)) ?_
     repeat (first | refine zan ?_ | refine za1 rfl ?_ | refine zai ?_ | refine zaj ?_ | refine zbe ?_ | refine zak ?_ | refine zat ?_ | refine zbl rfl ?_ | refine zbk rfl ?_ | refine zb2 ?_ | refine zbc ?_ | refine zb1 ?_ | refine za4 ?_ | refine za2 rfl ?_ | refine za3 ?_ | refine za5 ?_ | refine zbn rfl ?_ | refine zbs rfl rfl ?_ | refine zbz rfl ?_ | refine zab rfl ?_ | refine zax rfl rfl ?_ | refine zap rfl rfl rfl rfl ?_ | refine zaq rfl rfl rfl rfl rfl rfl rfl ?_ | refine zae rfl ?_ | refine za6 rfl rfl rfl ?_ | refine za0 rfl rfl rfl ?_ | refine za9 rfl rfl rfl rfl ?_ | refine zar ?_ | refine zao rfl rfl ?_ | refine zam rfl rfl ?_ | refine zc0 rfl rfl ?_ | refine zbd rfl rfl ?_ | refine zav rfl rfl ?_ | refine zac rfl rfl ?_ | refine zbf rfl rfl ?_ | refine zaa rfl rfl rfl ?_ | refine zaw rfl rfl ?_ | refine zal rfl rfl rfl rfl ?_ | refine za8 rfl rfl rfl rfl ?_ | refine zag rfl rfl rfl rfl ?_ | refine zb5 rfl rfl ?_ | refine zb4 rfl rfl ?_ | refine za7 rfl rfl ?_ | refine zb8 ?_ | refine zah env0_ok rfl rfl rfl ?_ | refine zad (op := .add) rfl rfl rfl ?_ | refine zad (op := .sub) rfl rfl rfl ?_ | refine zb7 rfl rfl rfl ?_ | refine zb6 rfl rfl rfl ?_ | refine zb3 rfl rfl rfl ?_ | refine zaz rfl rfl rfl ?_ | refine zb0 rfl rfl (by omega) (by assumption) rfl ?_ | refine za0 rfl rfl (decide_eq_true ⟨by omega, by omega⟩) ?_ | refine zau rfl rfl (by omega) (by omega) ?_ | refine zaf rfl rfl rfl ?_ | refine zba rfl ?_ | refine zb9 rfl ?_)
     refine zbw rfl rfl (zep (by decide) zcz) (fun h => Bool.noConfusion (show false = true from h)) ?_
     repeat (first | refine zan ?_ | refine za1 rfl ?_ | refine zai ?_ | refine zaj ?_ | refine zbe ?_ | refine zak ?_ | refine zat ?_ | refine zbl rfl ?_ | refine zbk rfl ?_ | refine zb2 ?_ | refine zbc ?_ | refine zb1 ?_ | refine za4 ?_ | refine za2 rfl ?_ | refine za3 ?_ | refine za5 ?_ | refine zbn rfl ?_ | refine zbs rfl rfl ?_ | refine zbz rfl ?_ | refine zab rfl ?_ | refine zax rfl rfl ?_ | refine zap rfl rfl rfl rfl ?_ | refine zaq rfl rfl rfl rfl rfl rfl rfl ?_ | refine zae rfl ?_ | refine za6 rfl rfl rfl ?_ | refine za0 rfl rfl rfl ?_ | refine za9 rfl rfl rfl rfl ?_ | refine zar ?_ | refine zao rfl rfl ?_ | refine zam rfl rfl ?_ | refine zc0 rfl rfl ?_ | refine zbd rfl rfl ?_ | refine zav rfl rfl ?_ | refine zac rfl rfl ?_ | refine zbf rfl rfl ?_ | refine zaa rfl rfl rfl ?_ | refine zaw rfl rfl ?_ | refine zal rfl rfl rfl rfl ?_ | refine za8 rfl rfl rfl rfl ?_ | refine zag rfl rfl rfl rfl ?_ | refine zb5 rfl rfl ?_ | refine zb4 rfl rfl ?_ | refine za7 rfl rfl ?_ | refine zb8 ?_ | refine zah env0_ok rfl rfl rfl ?_ | refine zad (op := .add) rfl rfl rfl ?_ | refine zad (op := .sub) rfl rfl rfl ?_ | refine zb7 rfl rfl rfl ?_ | refine zb6 rfl rfl rfl ?_ | refine zb3 rfl rfl rfl ?_ | refine zaz rfl rfl rfl ?_ | refine zb0 rfl rfl (by omega) (by assumption) rfl ?_ | refine za0 rfl rfl (decide_eq_true ⟨by omega, by omega⟩) ?_ | refine zau rfl rfl (by omega) (by omega) ?_ | refine zaf rfl rfl rfl ?_ | refine zba rfl ?_ | refine zb9 rfl ?_)
     refine zbw rfl rfl (zep (by decide) (zep (by decide) zcz)) (fun h => Bool.noConfusion (show false = true from h)) ?_
     refine zbr rfl rfl (zey _ _) (fun h5 => ?_) fun h5 => ?_
     ·rw [if_pos h5] at hsu
      repeat (first | refine zan ?_ | refine za1 rfl ?_ | refine zai ?_ | refine zaj ?_ | refine zbe ?_ | refine zak ?_ | refine zat ?_ | refine zbl rfl ?_ | refine zbk rfl ?_ | refine zb2 ?_ | refine zbc ?_ | refine zb1 ?_ | refine za4 ?_ | refine za2 rfl ?_ | refine za3 ?_ | refine za5 ?_ | refine zbn rfl ?_ | refine zbs rfl rfl ?_ | refine zbz rfl ?_ | refine zab rfl ?_ | refine zax rfl rfl ?_ | refine zap rfl rfl rfl rfl ?_ | refine zaq rfl rfl rfl rfl rfl rfl rfl ?_ | refine zae rfl ?_ | refine za6 rfl rfl rfl ?_ | refine za0 rfl rfl rfl ?_ | refine za9 rfl rfl rfl rfl ?_ | refine zar ?_ | refine zao rfl rfl ?_ | refine zam rfl rfl ?_ | refine zc0 rfl rfl ?_ | refine zbd rfl rfl ?_ | refine zav rfl rfl ?_ | refine zac rfl rfl ?_ | refine zbf rfl rfl ?_ | refine zaa rfl rfl rfl ?_ | refine zaw rfl rfl ?_ | refine za8 rfl rfl rfl rfl ?_ | refine zag rfl rfl rfl rfl ?_ | refine zb5 rfl rfl ?_ | refine zb4 rfl rfl ?_ | refine za7 rfl rfl ?_ | refine zb8 ?_ | refine zah env0_ok rfl rfl rfl ?_ | refine zad (op := .add) rfl rfl rfl ?_ | refine zad (op := .sub) rfl rfl rfl ?_ | refine zb7 rfl rfl rfl ?_ | refine zb6 rfl rfl rfl ?_ | refine zb3 rfl rfl rfl ?_ | refine zaz rfl rfl rfl ?_ | refine zb0 rfl rfl (by omega) (by assumption) rfl ?_ | refine za0 rfl rfl (decide_eq_true ⟨by omega, by omega⟩) ?_ | refine zau rfl rfl (by omega) (by omega) ?_ | refine zaf rfl rfl rfl ?_ | refine zba rfl ?_ | refine zb9 rfl ?_)
      refine zcv [[.int .i64 (i : Nat)]] rfl rfl (zcf (ys := []) zbp rfl (fun x hx => by obtain rfl := List.mem_singleton.1 hx; rfl)) (fun h => Nat.noConfusion h) rfl (by decide) (by (repeat (first | rw [zbh, if_pos rfl] | rw [zbh, if_neg (by omega)])); try rfl) (by rw [List.length_map, Nat.mul_one]) (by show _ + 1 ≤ _; omega) ?_
      repeat (first | refine zan ?_ | refine za1 rfl ?_ | refine zai ?_ | refine zaj ?_ | refine zbe ?_ | refine zak ?_ | refine zat ?_ | refine zbl rfl ?_ | refine zbk rfl ?_ | refine zb2 ?_ | refine zbc ?_ | refine zb1 ?_ | refine za4 ?_ | refine za2 rfl ?_ | refine za3 ?_ | refine za5 ?_ | refine zbn rfl ?_ | refine zbs rfl rfl ?_ | refine zbz rfl ?_ | refine zab rfl ?_ | refine zax rfl rfl ?_ | refine zap rfl rfl rfl rfl ?_ | refine zaq rfl rfl rfl rfl rfl rfl rfl ?_ | refine zae rfl ?_ | refine za6 rfl rfl rfl ?_ | refine za0 rfl rfl rfl ?_ | refine za9 rfl rfl rfl rfl ?_ | refine zar ?_ | refine zao rfl rfl ?_ | refine zam rfl rfl ?_ | refine zc0 rfl rfl ?_ | refine zbd rfl rfl ?_ | refine zav rfl rfl ?_ | refine zac rfl rfl ?_ | refine zbf rfl rfl ?_ | refine zaa rfl rfl rfl ?_ | refine zaw rfl rfl ?_ | refine zal rfl rfl rfl rfl ?_ | refine za8 rfl rfl rfl rfl ?_ | refine zag rfl rfl rfl rfl ?_ | refine zb5 rfl rfl ?_ | refine zb4 rfl rfl ?_ | refine za7 rfl rfl ?_ | refine zb8 ?_ | refine zah env0_ok rfl rfl rfl ?_ | refine zad (op := .add) rfl rfl rfl ?_ | refine zad (op := .sub) rfl rfl rfl ?_ | refine zb7 rfl rfl rfl ?_ | refine zb6 rfl rfl rfl ?_ | refine zb3 rfl rfl rfl ?_ | refine zaz rfl rfl rfl ?_ | refine zb0 rfl rfl (by omega) (by assumption) rfl ?_ | refine za0 rfl rfl (decide_eq_true ⟨by omega, by omega⟩) ?_ | refine zau rfl rfl (by omega) (by omega) ?_ | refine zaf rfl rfl rfl ?_ | refine zba rfl ?_ | refine zb9 rfl ?_)
      rw [w1]
      exact zbt (show s.length - (i + 1) < s.length - i by omega) (zch [(some (0, 2), (out ++ [(i : Int)]).map (AV.int .i64))] [] rfl rfl rfl .nil (.cons (by rw [zay, if_pos rfl]; rw [List.map_append]; rfl) (.keep (zdj _)) .nil) (l' := [(1, .vptr [.int .i64 n, .vs (cUs s)]), (7, vsI (zc8 s.length)), (8, .ms 0 0 1 0 (out.length + 1) none), (10, .int .i64 ((i + 1 : Nat) : Int))]) (.cons rfl (.same rfl) (.cons rfl (.same rfl) (.cons rfl (.ms rfl) (.cons rfl (.same rfl) .nil))))) ⟨i + 1, rfl, hlt, by rw [hsu, List.length_append]; rfl⟩
     ·rw [if_neg (fun h6 => Bool.noConfusion (h5.symm.trans h6))] at hsu
      repeat (first | refine zan ?_ | refine za1 rfl ?_ | refine zai ?_ | refine zaj ?_ | refine zbe ?_ | refine zak ?_ | refine zat ?_ | refine zbl rfl ?_ | refine zbk rfl ?_ | refine zb2 ?_ | refine zbc ?_ | refine zb1 ?_ | refine za4 ?_ | refine za2 rfl ?_ | refine za3 ?_ | refine za5 ?_ | refine zbn rfl ?_ | refine zbs rfl rfl ?_ | refine zbz rfl ?_ | refine zab rfl ?_ | refine zax rfl rfl ?_ | refine zap rfl rfl rfl rfl ?_ | refine zaq rfl rfl rfl rfl rfl rfl rfl ?_ | refine zae rfl ?_ | refine za6 rfl rfl rfl ?_ | refine za0 rfl rfl rfl ?_ | refine za9 rfl rfl rfl rfl ?_ | refine zar ?_ | refine zao rfl rfl ?_ | refine zam rfl rfl ?_ | refine zc0 rfl rfl ?_ | refine zbd rfl rfl ?_ | refine zav rfl rfl ?_ | refine zac rfl rfl ?_ | refine zbf rfl rfl ?_ | refine zaa rfl rfl rfl ?_ | refine zaw rfl rfl ?_ | refine zal rfl rfl rfl rfl ?_ | refine za8 rfl rfl rfl rfl ?_ | refine zag rfl rfl rfl rfl ?_ | refine zb5 rfl rfl ?_ | refine zb4 rfl rfl ?_ | refine za7 rfl rfl ?_ | refine zb8 ?_ | refine zah env0_ok rfl rfl rfl ?_ | refine zad (op := .add) rfl rfl rfl ?_ | refine zad (op := .sub) rfl rfl rfl ?_ | refine zb7 rfl rfl rfl ?_ | refine zb6 rfl rfl rfl ?_ | refine zb3 rfl rfl rfl ?_ | refine zaz rfl rfl rfl ?_ | refine zb0 rfl rfl (by omega) (by assumption) rfl ?_ | refine za0 rfl rfl (decide_eq_true ⟨by omega, by omega⟩) ?_ | refine zau rfl rfl (by omega) (by omega) ?_ | refine zaf rfl rfl rfl ?_ | refine zba rfl ?_ | refine zb9 rfl ?_)
      rw [w1]
      exact zbt (show s.length - (i + 1) < s.length - i by omega) (zbg (.cons rfl (.cons rfl (.cons rfl (.cons rfl .nil))))) ⟨i + 1, rfl, hlt, by rw [hsu]⟩
    ·have hi3 : i = s.length := by
      have : ¬ ((i : Nat) : Int) < (((zc8 s.length).map fun z => ([.int .i64 z] : List AV)).length : Nat) := of_decide_eq_false h4
      omega
     rw [hi3]
     repeat (first | refine zan ?_ | refine za1 rfl ?_ | refine zai ?_ | refine zaj ?_ | refine zbe ?_ | refine zak ?_ | refine zat ?_ | refine zbl rfl ?_ | refine zbk rfl ?_ | refine zb2 ?_ | refine zbc ?_ | refine zb1 ?_ | refine za4 ?_ | refine za2 rfl ?_ | refine za3 ?_ | refine za5 ?_ | refine zbn rfl ?_ | refine zbs rfl rfl ?_ | refine zbz rfl ?_ | refine zab rfl ?_ | refine zax rfl rfl ?_ | refine zap rfl rfl rfl rfl ?_ | refine zaq rfl rfl rfl rfl rfl rfl rfl ?_ | refine zae rfl ?_ | refine za6 rfl rfl rfl ?_ | refine za0 rfl rfl rfl ?_ | refine za9 rfl rfl rfl rfl ?_ | refine zar ?_ | refine zao rfl rfl ?_ | refine zam rfl rfl ?_ | refine zc0 rfl rfl ?_ | refine zbd rfl rfl ?_ | refine zav rfl rfl ?_ | refine zac rfl rfl ?_ | refine zbf rfl rfl ?_ | refine zaa rfl rfl rfl ?_ | refine zaw rfl rfl ?_ | refine zal rfl rfl rfl rfl ?_ | refine za8 rfl rfl rfl rfl ?_ | refine zag rfl rfl rfl rfl ?_ | refine zb5 rfl rfl ?_ | refine zb4 rfl rfl ?_ | refine za7 rfl rfl ?_ | refine zb8 ?_ | refine zah env0_ok rfl rfl rfl ?_ | refine zad (op := .add) rfl rfl rfl ?_ | refine zad (op := .sub) rfl rfl rfl ?_ | refine zb7 rfl rfl rfl ?_ | refine zb6 rfl rfl rfl ?_ | refine zb3 rfl rfl rfl ?_ | refine zaz rfl rfl rfl ?_ | refine zb0 rfl rfl (by omega) (by assumption) rfl ?_ | refine za0 rfl rfl (decide_eq_true ⟨by omega, by omega⟩) ?_ | refine zau rfl rfl (by omega) (by omega) ?_ | refine zaf rfl rfl rfl ?_ | refine zba rfl ?_ | refine zb9 rfl ?_)
     refine zdd ?_
     repeat (first | refine zan ?_ | refine za1 rfl ?_ | refine zai ?_ | refine zaj ?_ | refine zbe ?_ | refine zak ?_ | refine zat ?_ | refine zbl rfl ?_ | refine zbk rfl ?_ | refine zb2 ?_ | refine zbc ?_ | refine zb1 ?_ | refine za4 ?_ | refine za2 rfl ?_ | refine za3 ?_ | refine za5 ?_ | refine zbn rfl ?_ | refine zbs rfl rfl ?_ | refine zbz rfl ?_ | refine zab rfl ?_ | refine zax rfl rfl ?_ | refine zap rfl rfl rfl rfl ?_ | refine zaq rfl rfl rfl rfl rfl rfl rfl ?_ | refine zae rfl ?_ | refine za6 rfl rfl rfl ?_ | refine za0 rfl rfl rfl ?_ | refine za9 rfl rfl rfl rfl ?_ | refine zar ?_ | refine zao rfl rfl ?_ | refine zam rfl rfl ?_ | refine zc0 rfl rfl ?_ | refine zbd rfl rfl ?_ | refine zav rfl rfl ?_ | refine zac rfl rfl ?_ | refine zbf rfl rfl ?_ | refine zaa rfl rfl rfl ?_ | refine zaw rfl rfl ?_ | refine zal rfl rfl rfl rfl ?_ | refine za8 rfl rfl rfl rfl ?_ | refine zag rfl rfl rfl rfl ?_ | refine zb5 rfl rfl ?_ | refine zb4 rfl rfl ?_ | refine za7 rfl rfl ?_ | refine zb8 ?_ | refine zah env0_ok rfl rfl rfl ?_ | refine zad (op := .add) rfl rfl rfl ?_ | refine zad (op := .sub) rfl rfl rfl ?_ | refine zb7 rfl rfl rfl ?_ | refine zb6 rfl rfl rfl ?_ | refine zb3 rfl rfl rfl ?_ | refine zaz rfl rfl rfl ?_ | refine zb0 rfl rfl (by omega) (by assumption) rfl ?_ | refine za0 rfl rfl (decide_eq_true ⟨by omega, by omega⟩) ?_ | refine zau rfl rfl (by omega) (by omega) ?_ | refine zaf rfl rfl rfl ?_ | refine zba rfl ?_ | refine zb9 rfl ?_)
     exact zbj ⟨.inr rfl, _, rfl, congrArg AV.tup (zlq (ze6 (d := 2) (sp := 0) _ rfl rfl) rfl)⟩
 ·rw [if_neg hc]
  repeat (first | refine zan ?_ | refine za1 rfl ?_ | refine zai ?_ | refine zaj ?_ | refine zbe ?_ | refine zak ?_ | refine zat ?_ | refine zbl rfl ?_ | refine zbk rfl ?_ | refine zb2 ?_ | refine zbc ?_ | refine zb1 ?_ | refine za4 ?_ | refine za2 rfl ?_ | refine za3 ?_ | refine za5 ?_ | refine zbn rfl ?_ | refine zbs rfl rfl ?_ | refine zbz rfl ?_ | refine zab rfl ?_ | refine zax rfl rfl ?_ | refine zap rfl rfl rfl rfl ?_ | refine zaq rfl rfl rfl rfl rfl rfl rfl ?_ | refine zae rfl ?_ | refine za6 rfl rfl rfl ?_ | refine za0 rfl rfl rfl ?_ | refine za9 rfl rfl rfl rfl ?_ | refine zar ?_ | refine zao rfl rfl ?_ | refine zam rfl rfl ?_ | refine zc0 rfl rfl ?_ | refine zbd rfl rfl ?_ | refine zav rfl rfl ?_ | refine zac rfl rfl ?_ | refine zbf rfl rfl ?_ | refine zaa rfl rfl rfl ?_ | refine zaw rfl rfl ?_ | refine zal rfl rfl rfl rfl ?_ | refine za8 rfl rfl rfl rfl ?_ | refine zag rfl rfl rfl rfl ?_ | refine zb5 rfl rfl ?_ | refine zb4 rfl rfl ?_ | refine za7 rfl rfl ?_ | refine zb8 ?_ | refine zah env0_ok rfl rfl rfl ?_ | refine zad (op := .add) rfl rfl rfl ?_ | refine zad (op := .sub) rfl rfl rfl ?_ | refine zb7 rfl rfl rfl ?_ | refine zb6 rfl rfl rfl ?_ | refine zb3 rfl rfl rfl ?_ | refine zaz rfl rfl rfl ?_ | refine zb0 rfl rfl (by omega) (by assumption) rfl ?_ | refine za0 rfl rfl (decide_eq_true ⟨by omega, by omega⟩) ?_ | refine zau rfl rfl (by omega) (by omega) ?_ | refine zaf rfl rfl rfl ?_ | refine zba rfl ?_ | refine zb9 rfl ?_)
  refine zbr rfl rfl rfl (fun h => ?_) fun h => absurd (by simpa using h) hc
  repeat (first | refine zan ?_ | refine za1 rfl ?_ | refine zai ?_ | refine zaj ?_ | refine zbe ?_ | refine zak ?_ | refine zat ?_ | refine zbl rfl ?_ | refine zbk rfl ?_ | refine zb2 ?_ | refine zbc ?_ | refine zb1 ?_ | refine za4 ?_ | refine za2 rfl ?_ | refine za3 ?_ | refine za5 ?_ | refine zbn rfl ?_ | refine zbs rfl rfl ?_ | refine zbz rfl ?_ | refine zab rfl ?_ | refine zax rfl rfl ?_ | refine zap rfl rfl rfl rfl ?_ | refine zaq rfl rfl rfl rfl rfl rfl rfl ?_ | refine zae rfl ?_ | refine za6 rfl rfl rfl ?_ | refine za0 rfl rfl rfl ?_ | refine za9 rfl rfl rfl rfl ?_ | refine zar ?_ | refine zao rfl rfl ?_ | refine zam rfl rfl ?_ | refine zc0 rfl rfl ?_ | refine zbd rfl rfl ?_ | refine zav rfl rfl ?_ | refine zac rfl rfl ?_ | refine zbf rfl rfl ?_ | refine zaa rfl rfl rfl ?_ | refine zaw rfl rfl ?_ | refine zal rfl rfl rfl rfl ?_ | refine za8 rfl rfl rfl rfl ?_ | refine zag rfl rfl rfl rfl ?_ | refine zb5 rfl rfl ?_ | refine zb4 rfl rfl ?_ | refine za7 rfl rfl ?_ | refine zb8 ?_ | refine zah env0_ok rfl rfl rfl ?_ | refine zad (op := .add) rfl rfl rfl ?_ | refine zad (op := .sub) rfl rfl rfl ?_ | refine zb7 rfl rfl rfl ?_ | refine zb6 rfl rfl rfl ?_ | refine zb3 rfl rfl rfl ?_ | refine zaz rfl rfl rfl ?_ | refine zb0 rfl rfl (by omega) (by assumption) rfl ?_ | refine za0 rfl rfl (decide_eq_true ⟨by omega, by omega⟩) ?_ | refine zau rfl rfl (by omega) (by omega) ?_ | refine zaf rfl rfl rfl ?_ | refine zba rfl ?_ | refine zb9 rfl ?_)
  exact zbj ⟨.inr rfl, _, rfl, rfl⟩
end Go.Proofs.Ytknomkcdpcnmaaa
