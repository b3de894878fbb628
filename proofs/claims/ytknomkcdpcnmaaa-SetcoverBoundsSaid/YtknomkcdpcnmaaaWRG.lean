/-
  LISTS THAT ARE APART, OF THE REFERENCE: Lonely, Apart, Bound.
-/
import Derived.Test.YtknomkcdpcnmaaaWRE
import Derived.Test.YtknomkcdpcnmaaaWVI
namespace Go.Proofs.Ytknomkcdpcnmaaa
open Go Go.Am
def zjz (c : List Int) : BitVec 64 := c.foldl (fun a k => a ||| (1#64 <<< k.toNat)) 0
theorem zuo (c : List Int) (z : Int) : zjz (c ++ [z]) = zjz c ||| (1#64 <<< z.toNat) := by
 unfold zjz
 rw [List.foldl_append]
 rfl
def zf3 (s : List (BitVec 64)) (c : List Int) : Bool := s.all fun x => decide (szB (x &&& zjz c) ≤ 1)
def b51_0 : IC := .seq (.seq (.region [⟨(some 8), .mov (.t 6), none⟩,
  ⟨(some 9), .mov (.t 1), none⟩,
  ⟨(some 10), .len false (.t 9), none⟩,
  ⟨(some 11), .bin .lss (.t 8) (.t 10), none⟩] none)
 (.cond (.t 11) (.skip)
 (.exit 0)))
 (.seq (.block 1 (.region [⟨(some 14), .mov (.t 5), none⟩,
  ⟨(some 15), .mov (.t 1), none⟩,
  ⟨(some 16), .mov (.t 6), none⟩,
  ⟨(some 17), .idxs 1 (.t 15) (.t 16), none⟩,
  ⟨(some 18), .load none (.t 17), none⟩,
  ⟨(some 19), .bin .shl (.c (.int .u64 1)) (.t 18), none⟩,
  ⟨(some 20), .bin .or (.t 14) (.t 19), none⟩,
  ⟨(some 5), .mov (.t 20), none⟩] none))
 (.region [⟨(some 12), .mov (.t 6), none⟩,
  ⟨(some 13), .bin .add (.t 12) (.c (.int .i64 1)), none⟩,
  ⟨(some 6), .mov (.t 13), none⟩] none))
def b51_2 : IC := .seq (.seq (.region [⟨(some 21), .mov (.t 7), none⟩,
  ⟨(some 22), .faddr 1 (.t 2), none⟩,
  ⟨(some 23), .load none (.t 22), none⟩,
  ⟨(some 24), .len false (.t 23), none⟩,
  ⟨(some 25), .bin .lss (.t 21) (.t 24), none⟩] none)
 (.cond (.t 25) (.skip)
 (.exit 2)))
 (.seq (.block 3 (.seq (.region [⟨(some 28), .faddr 1 (.t 2), none⟩,
  ⟨(some 29), .load none (.t 28), none⟩,
  ⟨(some 30), .mov (.t 7), none⟩,
  ⟨(some 31), .idxs 1 (.t 29) (.t 30), none⟩,
  ⟨(some 32), .load none (.t 31), none⟩,
  ⟨(some 33), .mov (.t 5), none⟩,
  ⟨(some 34), .bin .and (.t 32) (.t 33), none⟩,
  ⟨(some 35), .call (.c (.fn 55 [] [])) [(.t 34)], none⟩,
  ⟨(some 36), .bin .gtr (.t 35) (.c (.int .i64 1)), none⟩] none)
 (.cond (.t 36) (.seq (.region [⟨(some 4), .mov (.c (.bool false)), none⟩] none)
 (.ret))
 (.skip))))
 (.region [⟨(some 26), .mov (.t 7), none⟩,
  ⟨(some 27), .bin .add (.t 26) (.c (.int .i64 1)), none⟩,
  ⟨(some 7), .mov (.t 27), none⟩] none))
-- pneumatic/pneumaticref09.Lonely
def ic51 : IC := .seq (.region [⟨(some 2), .box (.t 0), none⟩,
  ⟨(some 4), .mov (.c (.bool false)), none⟩] none)
 (.seq (.region [⟨(some 5), .mov (.c (.int .u64 0)), none⟩] none)
 (.seq (.seq (.region [⟨(some 6), .mov (.c (.int .i64 0)), none⟩] none)
 (.block 0 (.loop b51_0)))
 (.seq (.seq (.region [⟨(some 7), .mov (.c (.int .i64 0)), none⟩] none)
 (.block 2 (.loop b51_2)))
 (.seq (.region [⟨(some 4), .mov (.c (.bool true)), none⟩] none)
 (.ret)))))
theorem fn51 : env0.fn 51 = some ⟨37, ic51, [.t 4]⟩ := by kernel_rfl
set_option maxHeartbeats 4000000 in
theorem zqe (n : Int) (s : List (BitVec 64)) (hs : s.length ≤ 1000) (l : List Int) (hl : l.length ≤ 1000) (hm : ∀ z ∈ l, 0 ≤ z ∧ z < 64) : PF Try.prog 51 [cF n s, vsI l] (.bool (zf3 s l)) := by
 have hcl := zce s
 have hva : (l.map fun z => ([.int .i64 z] : List AV)).length = l.length := List.length_map ..
 refine zby env0_ok fn51 [(0, cF n s), (1, vsI l)] (by show 2 ≤ 37; decide) rfl fun w0 N0 => ?_
 unfold ic51
 refine zaa (za0 rfl (zbh (cs := [.int .i64 n, .vs (cUs s)]) rfl rfl (za6 rfl (za7 (za8 ?_)))))
 refine zd9 [] [(0, 0, [.int .i64 n, .vs (cUs s)])] [(1, vsI l), (2, .vptr [.int .i64 n, .vs (cUs s)])] rfl (.cons rfl rfl .nil) .nil (.cons rfl (.same rfl) (.cons rfl (.fptr rfl rfl) .nil)) ?_
 repeat (first | refine zaa ?_ | refine za0 rfl ?_ | refine za7 ?_ | refine za8 ?_ | refine zag ?_ | refine za6 rfl ?_)
 refine zc9 (fun mm S => ∃ i, mm = l.length - i ∧ i ≤ l.length ∧ S = st 37 [(1, vsI l), (2, .vptr [.int .i64 n, .vs (cUs s)]), (5, cU (zjz (l.take i))), (6, .int .i64 (i : Nat))] [] 0 1) l.length
  (zb5 (.cons rfl (.cons rfl (.cons rfl (.cons rfl .nil))))) ⟨0, rfl, Nat.zero_le _, rfl⟩ ?_
 rintro mm S ⟨i, rfl, hi, rfl⟩
 unfold b51_0
 repeat (first | refine zaa ?_ | refine za0 rfl ?_ | refine za6 rfl ?_ | refine zbe rfl rfl ?_)
 refine zbm rfl rfl (by show some (AV.bool (decide (((i : Nat) : Int) < ((l.map fun z => ([.int .i64 z] : List AV)).length : Nat)))) = _; rw [hva]) (fun h3 => ?_) fun h3 => ?_
 ·have hlt : i < l.length := Int.ofNat_lt.1 (of_decide_eq_true h3)
  have hg := ze2 hlt
  have hz := hm _ (List.getElem_mem hlt)
  have hts : l.take (i + 1) = l.take i ++ [l[i]] := by rw [List.take_add_one, List.getElem?_eq_getElem hlt]; rfl
  have hms := zuo (l.take i) l[i]
  rw [← hts] at hms
  have w1 : IntKind.wrap .i64 (((i : Nat) : Int) + 1) = ((i + 1 : Nat) : Int) := zbn i (by omega)
  obtain ⟨b, hb⟩ : ∃ b : Nat, l[i] = (b : Int) := ⟨l[i].toNat, by omega⟩
  rw [hb] at hz hms hg
  rw [Int.toNat_natCast] at hms
  repeat (first | refine zaa ?_ | refine za0 rfl ?_ | refine za7 ?_ | refine za8 ?_ | refine zag ?_ | refine zao ?_ | refine zbo rfl ?_ | refine za6 rfl ?_ | refine zar rfl rfl ?_ | refine zb0 rfl rfl (by omega) (by assumption) rfl ?_)
  refine zah rfl rfl (zl2 1#64 (by omega)) ?_
  refine zah rfl rfl (zhk _ _) ?_
  repeat (first | refine za0 rfl ?_ | refine za7 ?_ | refine za8 ?_ | refine zbf ?_ | refine za6 rfl ?_ | refine zah (op := .add) rfl rfl rfl ?_)
  rw [w1]
  exact zbp (show l.length - (i + 1) < l.length - i by omega) (zb5 (.cons rfl (.cons rfl (.cons rfl (.cons rfl .nil))))) ⟨i + 1, rfl, hlt, by rw [hms]⟩
 ·have hi3 : i = l.length := by
   have : ¬ i < l.length := fun h => of_decide_eq_false h3 (Int.ofNat_lt.2 h)
   omega
  rw [hi3, List.take_length]
  have hlo : zf3 s l = s.all fun x => decide (szB (x &&& zjz l) ≤ 1) := rfl
  generalize zjz l = M at *
  repeat (first | refine za7 ?_ | refine za8 ?_ | refine zbl rfl ?_ | refine zb2 ?_ | refine za4 ?_)
  refine zd6 ?_
  repeat (first | refine zaa ?_ | refine za0 rfl ?_ | refine za7 ?_ | refine za8 ?_ | refine zag ?_ | refine zb1 ?_ | refine za6 rfl ?_)
  refine zc9 (fun mm S => ∃ j, mm = s.length - j ∧ j ≤ s.length ∧ (s.take j).all (fun x => decide (szB (x &&& M) ≤ 1)) = true ∧ S = st 37 [(2, .vptr [.int .i64 n, .vs (cUs s)]), (5, cU M), (7, .int .i64 (j : Nat))] [] 0 1) s.length
   (zb5 (.cons rfl (.cons rfl (.cons rfl .nil)))) ⟨0, rfl, Nat.zero_le _, rfl, rfl⟩ ?_
  rintro mm S ⟨j, rfl, hj, hall, rfl⟩
  unfold b51_2
  repeat (first | refine zaa ?_ | refine za0 rfl ?_ | refine za6 rfl ?_ | refine zar rfl rfl ?_ | refine za9 rfl rfl rfl ?_ | refine zbe rfl rfl ?_)
  refine zbm rfl rfl rfl (fun h4 => ?_) fun h4 => ?_
  ·have hlt : j < s.length := by
    have : ((j : Nat) : Int) < ((cUs s).length : Nat) := of_decide_eq_true h4
    omega
   have hg := zf6 hlt
   have hts : s.take (j + 1) = s.take j ++ [s[j]] := by rw [List.take_add_one, List.getElem?_eq_getElem hlt]; rfl
   have w1 : IntKind.wrap .i64 (((j : Nat) : Int) + 1) = ((j + 1 : Nat) : Int) := zbn j (by omega)
   have pS := size55 (s[j] &&& M)
   repeat (first | refine zah rfl rfl (zdp _ _) ?_ | refine zaa ?_ | refine za0 rfl ?_ | refine za7 ?_ | refine za8 ?_ | refine zag ?_ | refine zao ?_ | refine zbo rfl ?_ | refine za6 rfl ?_ | refine zar rfl rfl ?_ | refine za9 rfl rfl rfl ?_ | refine zb0 rfl rfl (by omega) (by assumption) rfl ?_)
   refine zbu rfl rfl pS (fun h => Bool.noConfusion (show false = true from h)) ?_
   refine zbm rfl rfl rfl (fun h5 => ?_) fun h5 => ?_
   ·have h5 : ((szB (s[j] &&& M) : Nat) : Int) > 1 := of_decide_eq_true h5
    have hf : zf3 s l = false := by
     rw [hlo, List.all_eq_false]
     exact ⟨s[j], List.getElem_mem hlt, by rw [decide_eq_true_eq]; omega⟩
    rw [hf]
    repeat (first | refine zaa ?_ | refine za0 rfl ?_ | refine za7 ?_ | refine za8 ?_ | refine zbo rfl ?_ | refine zb6 ?_ | refine za2 ?_ | refine za5 ?_ | refine za6 rfl ?_)
    exact zbj ⟨.inr rfl, _, rfl, rfl⟩
   ·have h5 : ¬ ((szB (s[j] &&& M) : Nat) : Int) > 1 := of_decide_eq_false h5
    repeat (first | refine za0 rfl ?_ | refine za7 ?_ | refine za8 ?_ | refine zbf ?_ | refine zao ?_ | refine zbl rfl ?_ | refine za6 rfl ?_ | refine zah (op := .add) rfl rfl rfl ?_)
    rw [w1]
    exact zbp (show s.length - (j + 1) < s.length - j by omega) (zb5 (.cons rfl (.cons rfl (.cons rfl .nil)))) ⟨j + 1, rfl, hlt, by rw [hts, List.all_append, hall, Bool.true_and, List.all_cons, List.all_nil, Bool.and_true, decide_eq_true (show szB (s[j] &&& M) ≤ 1 by omega)], rfl⟩
  ·have hj3 : j = s.length := by
    have : ¬ ((j : Nat) : Int) < ((cUs s).length : Nat) := of_decide_eq_false h4
    omega
   rw [hj3, List.take_length] at hall
   rw [show zf3 s l = true from hlo.trans hall]
   repeat (first | refine za7 ?_ | refine za8 ?_ | refine zbl rfl ?_ | refine zb2 ?_ | refine za4 ?_)
   refine zd6 ?_
   repeat (first | refine zaa ?_ | refine za0 rfl ?_ | refine za7 ?_ | refine za8 ?_ | refine zb6 ?_ | refine zb1 ?_ | refine za6 rfl ?_)
   exact zbj ⟨.inr rfl, _, rfl, rfl⟩
end Go.Proofs.Ytknomkcdpcnmaaa
