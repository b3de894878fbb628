/-
  THE SETS THAT ARE NEEDED: setcover.Needed.
-/
import Derived.Test.YtknomkcdpcnmaaaJV4
import Derived.Test.YtknomkcdpcnmaaaJS0
namespace Go.Proofs.Ytknomkcdpcnmaaa
open Go Go.Am
def b31_0 : IC := .seq (.region [⟨(some 21), .bin .lss (.t 20) (.t 19), none⟩] none)
 (.seq (.cond (.t 21) (.skip)
 (.exit 0))
 (.seq (.block 1 (.seq (.region [⟨(some 22), .idxs 1 (.t 18) (.t 20), none⟩,
  ⟨(some 23), .load none (.t 22), none⟩,
  ⟨(some 8), .mov (.t 23), none⟩] none)
 (.seq (.region [⟨(some 24), .mov (.t 6), none⟩,
  ⟨(some 25), .mov (.t 5), none⟩,
  ⟨(some 26), .mov (.t 8), none⟩,
  ⟨(some 27), .bin .and (.t 25) (.t 26), none⟩,
  ⟨(some 28), .bin .or (.t 24) (.t 27), none⟩,
  ⟨(some 6), .mov (.t 28), none⟩] none)
 (.region [⟨(some 29), .mov (.t 5), none⟩,
  ⟨(some 30), .mov (.t 8), none⟩,
  ⟨(some 31), .bin .or (.t 29) (.t 30), none⟩,
  ⟨(some 5), .mov (.t 31), none⟩] none))))
 (.region [⟨(some 32), .bin .add (.t 20) (.c (.int .i64 1)), none⟩,
  ⟨(some 20), .mov (.t 32), none⟩] none)))
def b31_2 : IC := .seq (.region [⟨(some 42), .bin .lss (.t 41) (.t 40), none⟩] none)
 (.seq (.cond (.t 42) (.skip)
 (.exit 2))
 (.seq (.block 3 (.seq (.region [⟨(some 43), .mov (.t 41), none⟩,
  ⟨(some 44), .idxs 1 (.t 39) (.t 41), none⟩,
  ⟨(some 45), .load none (.t 44), none⟩,
  ⟨(some 10), .mov (.t 43), none⟩,
  ⟨(some 11), .mov (.t 45), none⟩] none)
 (.seq (.region [⟨(some 46), .mov (.t 11), none⟩,
  ⟨(some 47), .mov (.t 6), none⟩,
  ⟨(some 48), .bin .andNot (.t 46) (.t 47), none⟩,
  ⟨(some 49), .bin .neq (.t 48) (.c (.int .u64 0)), none⟩] none)
 (.cond (.t 49) (.region [⟨(some 50), .mov (.t 9), none⟩,
  ⟨(some 51), .mov (.t 10), none⟩,
  ⟨(some 52), .bslice 1 1 [.int .i64 0] [(0, 1, (.t 51))], none⟩,
  ⟨(some 53), .append 1 8 [.int .i64 0] (.t 50) (.t 52), none⟩,
  ⟨(some 9), .mov (.t 53), none⟩] none)
 (.skip)))))
 (.region [⟨(some 54), .bin .add (.t 41) (.c (.int .i64 1)), none⟩,
  ⟨(some 41), .mov (.t 54), none⟩] none)))
-- pneumatic/setcover.Needed
def ic31 : IC := .seq (.region [⟨(some 1), .box (.t 0), none⟩,
  ⟨(some 2), .mov (.c (.nils)), none⟩,
  ⟨(some 3), .mov (.c (.int .i64 0)), none⟩] none)
 (.seq (.seq (.region [⟨(some 12), .load (some 2) (.t 1), none⟩,
  ⟨(some 13), .call (.c (.fn 37 [] [])) [(.t 12)], none⟩,
  ⟨(some 4), .mov (.t 13), none⟩] none)
 (.seq (.region [⟨(some 14), .mov (.t 4), none⟩,
  ⟨(some 15), .bin .neq (.t 14) (.c (.int .i64 0)), none⟩] none)
 (.cond (.t 15) (.seq (.region [⟨(some 16), .mov (.t 4), none⟩,
  ⟨(some 2), .mov (.c (.nils)), none⟩,
  ⟨(some 3), .mov (.t 16), none⟩] none)
 (.ret))
 (.skip))))
 (.seq (.region [⟨(some 5), .mov (.c (.int .u64 0)), none⟩,
  ⟨(some 6), .mov (.c (.int .u64 0)), none⟩] none)
 (.seq (.seq (.region [⟨(some 17), .faddr 1 (.t 1), none⟩,
  ⟨(some 18), .load none (.t 17), none⟩,
  ⟨(some 19), .len false (.t 18), none⟩,
  ⟨(some 20), .mov (.c (.int .i64 0)), none⟩] none)
 (.block 0 (.loop b31_0)))
 (.seq (.seq (.region [⟨(some 33), .mov (.t 5), none⟩,
  ⟨(some 34), .faddr 0 (.t 1), none⟩,
  ⟨(some 35), .load none (.t 34), none⟩,
  ⟨(some 36), .call (.c (.fn 43 [] [])) [(.t 35)], none⟩,
  ⟨(some 37), .bin .neq (.t 33) (.t 36), none⟩] none)
 (.cond (.t 37) (.seq (.region [⟨(some 2), .mov (.c (.nils)), none⟩,
  ⟨(some 3), .mov (.c (.int .i64 6)), none⟩] none)
 (.ret))
 (.skip)))
 (.seq (.region [⟨(some 9), .mov (.c (.nils)), none⟩] none)
 (.seq (.seq (.region [⟨(some 38), .faddr 1 (.t 1), none⟩,
  ⟨(some 39), .load none (.t 38), none⟩,
  ⟨(some 40), .len false (.t 39), none⟩,
  ⟨(some 41), .mov (.c (.int .i64 0)), none⟩] none)
 (.block 2 (.loop b31_2)))
 (.seq (.region [⟨(some 55), .mov (.t 9), none⟩,
  ⟨(some 2), .mov (.t 55), none⟩,
  ⟨(some 3), .mov (.c (.int .i64 0)), none⟩] none)
 (.ret))))))))
theorem fn31 : env0.fn 31 = some ⟨56, ic31, [.t 2, .t 3]⟩ := by kernel_rfl
def ze4 (s : List (BitVec 64)) (i : Nat) : BitVec 64 × BitVec 64 := (s.take i).foldl (fun a x => (a.1 ||| x, a.2 ||| (a.1 &&& x))) (0#64, 0#64)
theorem zhk {s : List (BitVec 64)} {i : Nat} (h : i < s.length) : ze4 s (i + 1) = ((ze4 s i).1 ||| s[i], (ze4 s i).2 ||| ((ze4 s i).1 &&& s[i])) := by
 unfold ze4
 rw [List.take_add_one, List.getElem?_eq_getElem h, List.foldl_append]
 rfl
def zi0 (s : List (BitVec 64)) (tw : BitVec 64) (i : Nat) : List Int := ((List.range i).filter fun k => s.getD k 0 &&& ~~~ tw != 0#64).map fun k => ((k : Nat) : Int)
theorem zru (s : List (BitVec 64)) (tw : BitVec 64) (i : Nat) : zi0 s tw (i + 1) = if (s.getD i 0 &&& ~~~ tw != 0#64) = true then zi0 s tw i ++ [(i : Int)] else zi0 s tw i := by
 unfold zi0
 rw [List.range_succ, List.filter_append, List.map_append, List.filter_cons]
 split
 ·rfl
 ·rw [List.filter_nil, List.map_nil, List.append_nil]
theorem zv9 (s : List (BitVec 64)) (tw : BitVec 64) (i : Nat) : (zi0 s tw i).length ≤ i := by
 unfold zi0
 rw [List.length_map]
 exact Nat.le_trans (List.length_filter_le ..) (by rw [List.length_range]; exact Nat.le_refl _)
def needV (n : Int) (s : List (BitVec 64)) : AV := if zek n s = 0 then (if (ze4 s s.length).1 = zcy n then .tup [vsI (zi0 s (ze4 s s.length).2 s.length), .int .i64 0] else .tup [.vs [], .int .i64 6]) else .tup [.vs [], .int .i64 (zek n s)]
set_option maxHeartbeats 4000000 in
theorem needed31 (n : Int) (s : List (BitVec 64)) : PF Try.prog 31 [cF n s] (needV n s) := by
 have pC := zld n s
 have hcl := zcf s
 refine zc2 env0_ok fn31 [(0, cF n s)] (by show 1 ≤ 56; decide) rfl fun w0 N0 => ?_
 unfold ic31 needV
 refine za7 (za0 rfl (zbt (cs := [.int .i64 n, .vs (cUs s)]) rfl rfl (za1 rfl (za1 rfl (za5 (za6 ?_))))))
 refine zdm [] [(0, 0, [.int .i64 n, .vs (cUs s)])] [(1, .vptr [.int .i64 n, .vs (cUs s)])] rfl (.cons rfl rfl .nil) .nil (.cons rfl (.fptr rfl rfl) .nil) ?_
 repeat (first | refine za7 ?_ | refine za0 rfl ?_ | refine zaw rfl rfl rfl rfl ?_)
 refine zbq rfl rfl pC (fun h => Bool.noConfusion (show false = true from h)) ?_
 by_cases hc : zek n s = 0
 ·rw [if_pos hc, hc]
  obtain ⟨n0, n1, s1, _⟩ := zfc hc
  have pA := zrb n0 n1
  repeat (first | refine za7 ?_ | refine za0 rfl ?_ | refine za5 ?_ | refine za6 ?_ | refine zaf ?_ | refine zag ?_ | refine zby rfl ?_ | refine za1 rfl ?_ | refine zam rfl rfl ?_ | refine zad rfl rfl rfl ?_ | refine zbc rfl rfl ?_ | refine zb6 rfl rfl rfl ?_)
  refine zcv (fun mm S => ∃ i, mm = s.length - i ∧ i ≤ s.length ∧
    S = st 56 [(1, .vptr [.int .i64 n, .vs (cUs s)]), (5, cU (ze4 s i).1), (6, cU (ze4 s i).2), (18, .vs (cUs s)), (19, .int .i64 (cUs s).length), (20, .int .i64 (i : Nat))] [] 0 1) s.length
   (zao (.cons rfl (.cons rfl (.cons rfl (.cons rfl (.cons rfl (.cons rfl .nil))))))) ⟨0, rfl, Nat.zero_le _, rfl⟩ ?_
  rintro mm S ⟨i, rfl, hi, rfl⟩
  unfold b31_0
  repeat (first | refine za7 ?_ | refine za0 rfl ?_)
  refine zbr rfl rfl rfl (fun h3 => ?_) fun h3 => ?_
  ·have hlt : i < s.length := by
    have : ((i : Nat) : Int) < ((cUs s).length : Nat) := of_decide_eq_true h3
    omega
   have hg := zga hlt
   have ho := zhk hlt
   repeat (first | refine zae rfl rfl (ze1 _ _) ?_ | refine zae rfl rfl (zin _ _) ?_ | refine za7 ?_ | refine za0 rfl ?_ | refine za5 ?_ | refine za6 ?_ | refine zbe ?_ | refine zaf ?_ | refine zag ?_ | refine zbz rfl ?_ | refine za1 rfl ?_ | refine zam rfl rfl ?_ | refine zae (op := .add) rfl rfl rfl ?_ | refine zb7 rfl rfl (by omega) (by assumption) rfl ?_)
   rw [zbs i (by omega)]
   exact zbv (show s.length - (i + 1) < s.length - i by omega) (zao (.cons rfl (.cons rfl (.cons rfl (.cons rfl (.cons rfl (.cons rfl .nil))))))) ⟨i + 1, rfl, hlt, by rw [ho]⟩
  ·have hi2 : i = s.length := by
    have : ¬ ((i : Nat) : Int) < ((cUs s).length : Nat) := of_decide_eq_false h3
    omega
   rw [hi2]
   generalize ze4 s s.length = B
   obtain ⟨on, tw⟩ := B
   repeat (first | refine za7 ?_ | refine za5 ?_ | refine za6 ?_ | refine zby rfl ?_ | refine zb2 ?_ | refine za8 ?_)
   refine ze6 ?_
   repeat (first | refine za7 ?_ | refine za0 rfl ?_ | refine za6 ?_ | refine zb1 ?_ | refine za1 rfl ?_ | refine zam rfl rfl ?_ | refine zad rfl rfl rfl ?_)
   refine zbq rfl rfl pA (fun h => Bool.noConfusion (show false = true from h)) ?_
   refine zbr rfl rfl (zfq _ _) (fun h => ?_) fun h => ?_
   ·rw [if_neg (by simpa using h)]
    repeat (first | refine za7 ?_ | refine za0 rfl ?_ | refine za5 ?_ | refine za6 ?_ | refine zbz rfl ?_ | refine zaz ?_ | refine za3 ?_ | refine za1 rfl ?_)
    exact zba ⟨.inr rfl, _, rfl, rfl⟩
   ·have h : on = zcy n := by
     cases hb : on == zcy n with
     | true => exact eq_of_beq hb
     | false =>
      have h2 : (on != zcy n) = true := by rw [bne, hb]; rfl
      rw [h2] at h
      cases h
    rw [if_pos h]
    repeat (first | refine za7 ?_ | refine za0 rfl ?_ | refine za5 ?_ | refine za6 ?_ | refine zaf ?_ | refine zag ?_ | refine zby rfl ?_ | refine za1 rfl ?_ | refine zam rfl rfl ?_ | refine zad rfl rfl rfl ?_ | refine zbc rfl rfl ?_)
    refine znx 9 1 rfl ?_
    refine zcv (fun mm S => ∃ i, mm = s.length - i ∧ i ≤ s.length ∧
      S = st 56 [(1, .vptr [.int .i64 n, .vs (cUs s)]), (6, cU tw), (9, .ms 0 0 1 0 (zi0 s tw i).length none), (39, .vs (cUs s)), (40, .int .i64 (cUs s).length), (41, .int .i64 (i : Nat))] [(0, 0, .cells ((zi0 s tw i).map (AV.int .i64)))] 1 1) s.length
     (zdw [(some (0, 1), [])] [] rfl rfl rfl .nil (.cons rfl .nil .nil) (l' := [(1, .vptr [.int .i64 n, .vs (cUs s)]), (6, cU tw), (9, .ms 0 0 1 0 0 none), (39, .vs (cUs s)), (40, .int .i64 (cUs s).length), (41, .int .i64 ((0 : Nat) : Int))]) (.cons rfl (.same rfl) (.cons rfl (.same rfl) (.cons rfl (.ms rfl) (.cons rfl (.same rfl) (.cons rfl (.same rfl) (.cons rfl (.same rfl) .nil))))))) ⟨0, rfl, Nat.zero_le _, rfl⟩ ?_
    rintro mm S ⟨i, rfl, hi, rfl⟩
    have hnl := zv9 s tw i
    unfold b31_2
    repeat (first | refine za7 ?_ | refine za0 rfl ?_)
    refine zbr rfl rfl rfl (fun h4 => ?_) fun h4 => ?_
    ·have hlt : i < s.length := by
      have : ((i : Nat) : Int) < ((cUs s).length : Nat) := of_decide_eq_true h4
      omega
     have hg := zga hlt
     have hns := zru s tw i
     rw [show s.getD i 0 = s[i] by rw [List.getD_eq_getElem?_getD, List.getElem?_eq_getElem hlt]; rfl] at hns
     have w1 : IntKind.wrap .i64 (((i : Nat) : Int) + 1) = ((i + 1 : Nat) : Int) := zbs i (by omega)
     generalize zi0 s tw i = out at *
     repeat (first | refine zae rfl rfl (zfp _ _) ?_ | refine za7 ?_ | refine za0 rfl ?_ | refine za5 ?_ | refine za6 ?_ | refine zaf ?_ | refine zag ?_ | refine zbz rfl ?_ | refine za1 rfl ?_ | refine zam rfl rfl ?_ | refine zb7 rfl rfl (by omega) (by assumption) rfl ?_)
     refine zbr rfl rfl (zfq _ (0#64)) (fun h5 => ?_) fun h5 => ?_
     ·rw [if_pos h5] at hns
      repeat (first | refine za0 rfl ?_ | refine za5 ?_ | refine za6 ?_ | refine zbz rfl ?_ | refine za1 rfl ?_ | refine zal rfl rfl ?_)
      refine zjl [[.int .i64 (i : Nat)]] rfl rfl (zdu (ys := []) zbp rfl (fun x hx => by obtain rfl := List.mem_singleton.1 hx; rfl)) (fun h => Nat.noConfusion h) rfl (by decide) (by (repeat (first | rw [zb0, if_pos rfl] | rw [zb0, if_neg (by omega)])); try rfl) (by rw [List.length_map, Nat.mul_one]) (by show _ + 1 ≤ _; omega) ?_
      repeat (first | refine za0 rfl ?_ | refine za5 ?_ | refine za6 ?_ | refine zbe ?_ | refine za1 rfl ?_ | refine zae (op := .add) rfl rfl rfl ?_)
      rw [w1]
      exact zbv (show s.length - (i + 1) < s.length - i by omega) (zdw [(some (0, 2), (out ++ [(i : Int)]).map (AV.int .i64))] [] rfl rfl rfl .nil (.cons (by rw [zaa, if_pos rfl]; rw [List.map_append]; rfl) (.keep (zhe _)) .nil) (l' := [(1, .vptr [.int .i64 n, .vs (cUs s)]), (6, cU tw), (9, .ms 0 0 1 0 (out.length + 1) none), (39, .vs (cUs s)), (40, .int .i64 (cUs s).length), (41, .int .i64 ((i + 1 : Nat) : Int))]) (.cons rfl (.same rfl) (.cons rfl (.same rfl) (.cons rfl (.ms rfl) (.cons rfl (.same rfl) (.cons rfl (.same rfl) (.cons rfl (.same rfl) .nil))))))) ⟨i + 1, rfl, hlt, by rw [hns, List.length_append]; rfl⟩
     ·rw [if_neg (fun h6 => Bool.noConfusion (h5.symm.trans h6))] at hns
      repeat (first | refine za0 rfl ?_ | refine za5 ?_ | refine za6 ?_ | refine zbe ?_ | refine zag ?_ | refine zby rfl ?_ | refine za1 rfl ?_ | refine zae (op := .add) rfl rfl rfl ?_)
      rw [w1]
      exact zbv (show s.length - (i + 1) < s.length - i by omega) (zao (.cons rfl (.cons rfl (.cons rfl (.cons rfl (.cons rfl (.cons rfl .nil))))))) ⟨i + 1, rfl, hlt, by rw [hns]⟩
    ·have hi3 : i = s.length := by
      have : ¬ ((i : Nat) : Int) < ((cUs s).length : Nat) := of_decide_eq_false h4
      omega
     rw [hi3]
     repeat (first | refine za7 ?_ | refine za5 ?_ | refine za6 ?_ | refine zby rfl ?_ | refine zb2 ?_ | refine za8 ?_)
     refine ze6 ?_
     repeat (first | refine za7 ?_ | refine za0 rfl ?_ | refine za5 ?_ | refine za6 ?_ | refine zaz ?_ | refine zb1 ?_ | refine za1 rfl ?_)
     exact zba ⟨.inr rfl, _, rfl, congrArg AV.tup (zot (znv (d := 2) (sp := 0) _ rfl rfl) rfl)⟩
 ·rw [if_neg hc]
  repeat (first | refine za7 ?_ | refine za0 rfl ?_ | refine za5 ?_ | refine za6 ?_ | refine za1 rfl ?_)
  refine zbr rfl rfl rfl (fun h => ?_) fun h => absurd (by simpa using h) hc
  repeat (first | refine za7 ?_ | refine za0 rfl ?_ | refine za5 ?_ | refine za6 ?_ | refine zbz rfl ?_ | refine zaz ?_ | refine za3 ?_ | refine za1 rfl ?_)
  exact zba ⟨.inr rfl, _, rfl, rfl⟩
end Go.Proofs.Ytknomkcdpcnmaaa
