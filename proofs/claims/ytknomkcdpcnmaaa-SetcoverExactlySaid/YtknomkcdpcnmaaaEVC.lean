/-
  COMPARING LISTS OF NUMBERS: slices.Compare.
-/
import Derived.Test.YtknomkcdpcnmaaaEVA
import Derived.Test.YtknomkcdpcnmaaaES0
namespace Go.Proofs.Ytknomkcdpcnmaaa
open Go Go.Am
-- cmp.isNaN[int]
def ic69 : IC := .seq (.region [⟨(some 2), .mov (.c (.bool false)), none⟩] none)
 (.seq (.region [⟨(some 3), .mov (.t 0), none⟩,
  ⟨(some 4), .mov (.t 0), none⟩,
  ⟨(some 5), .bin .neq (.t 3) (.t 4), none⟩,
  ⟨(some 2), .mov (.t 5), none⟩] none)
 (.ret))
theorem fn69 : env0.fn 69 = some ⟨6, ic69, [.t 2]⟩ := by kernel_rfl
-- cmp.Compare[int]
def ic64 : IC := .seq (.region [⟨(some 4), .mov (.c (.int .i64 0)), none⟩] none)
 (.seq (.region [⟨(some 7), .mov (.t 0), none⟩,
  ⟨(some 8), .call (.c (.fn 69 [] [])) [(.t 7)], none⟩,
  ⟨(some 5), .mov (.t 8), none⟩] none)
 (.seq (.region [⟨(some 9), .mov (.t 1), none⟩,
  ⟨(some 10), .call (.c (.fn 69 [] [])) [(.t 9)], none⟩,
  ⟨(some 6), .mov (.t 10), none⟩] none)
 (.seq (.seq (.region [⟨(some 11), .mov (.t 5), none⟩] none)
 (.cond (.t 11) (.seq (.seq (.region [⟨(some 12), .mov (.t 6), none⟩] none)
 (.cond (.t 12) (.seq (.region [⟨(some 4), .mov (.c (.int .i64 0)), none⟩] none)
 (.ret))
 (.skip)))
 (.seq (.region [⟨(some 4), .mov (.c (.int .i64 (-1))), none⟩] none)
 (.ret)))
 (.skip)))
 (.seq (.seq (.region [⟨(some 13), .mov (.t 6), none⟩] none)
 (.cond (.t 13) (.seq (.region [⟨(some 4), .mov (.c (.int .i64 1)), none⟩] none)
 (.ret))
 (.skip)))
 (.seq (.seq (.region [⟨(some 14), .mov (.t 0), none⟩,
  ⟨(some 15), .mov (.t 1), none⟩,
  ⟨(some 16), .bin .lss (.t 14) (.t 15), none⟩] none)
 (.cond (.t 16) (.seq (.region [⟨(some 4), .mov (.c (.int .i64 (-1))), none⟩] none)
 (.ret))
 (.skip)))
 (.seq (.seq (.region [⟨(some 17), .mov (.t 0), none⟩,
  ⟨(some 18), .mov (.t 1), none⟩,
  ⟨(some 19), .bin .gtr (.t 17) (.t 18), none⟩] none)
 (.cond (.t 19) (.seq (.region [⟨(some 4), .mov (.c (.int .i64 1)), none⟩] none)
 (.ret))
 (.skip)))
 (.seq (.region [⟨(some 4), .mov (.c (.int .i64 0)), none⟩] none)
 (.ret))))))))
theorem fn64 : env0.fn 64 = some ⟨20, ic64, [.t 4]⟩ := by kernel_rfl
def b44_0 : IC := .seq (.region [⟨(some 12), .bin .lss (.t 11) (.t 10), none⟩] none)
 (.seq (.cond (.t 12) (.skip)
 (.exit 0))
 (.seq (.block 1 (.seq (.region [⟨(some 13), .mov (.t 11), none⟩,
  ⟨(some 14), .idxs 1 (.t 9) (.t 11), none⟩,
  ⟨(some 15), .load none (.t 14), none⟩,
  ⟨(some 5), .mov (.t 13), none⟩,
  ⟨(some 6), .mov (.t 15), none⟩] none)
 (.seq (.seq (.region [⟨(some 16), .mov (.t 5), none⟩,
  ⟨(some 17), .mov (.t 1), none⟩,
  ⟨(some 18), .len false (.t 17), none⟩,
  ⟨(some 19), .bin .geq (.t 16) (.t 18), none⟩] none)
 (.cond (.t 19) (.seq (.region [⟨(some 4), .mov (.c (.int .i64 1)), none⟩] none)
 (.ret))
 (.skip)))
 (.seq (.region [⟨(some 20), .mov (.t 1), none⟩,
  ⟨(some 21), .mov (.t 5), none⟩,
  ⟨(some 22), .idxs 1 (.t 20) (.t 21), none⟩,
  ⟨(some 23), .load none (.t 22), none⟩,
  ⟨(some 7), .mov (.t 23), none⟩] none)
 (.seq (.region [⟨(some 24), .mov (.t 6), none⟩,
  ⟨(some 25), .mov (.t 7), none⟩,
  ⟨(some 26), .call (.c (.fn 64 [] [])) [(.t 24), (.t 25)], none⟩,
  ⟨(some 8), .mov (.t 26), none⟩] none)
 (.seq (.region [⟨(some 27), .mov (.t 8), none⟩,
  ⟨(some 28), .bin .neq (.t 27) (.c (.int .i64 0)), none⟩] none)
 (.cond (.t 28) (.seq (.region [⟨(some 29), .mov (.t 8), none⟩,
  ⟨(some 4), .mov (.t 29), none⟩] none)
 (.ret))
 (.skip))))))))
 (.region [⟨(some 30), .bin .add (.t 11) (.c (.int .i64 1)), none⟩,
  ⟨(some 11), .mov (.t 30), none⟩] none)))
-- slices.Compare[[]int,int]
def ic44 : IC := .seq (.region [⟨(some 4), .mov (.c (.int .i64 0)), none⟩] none)
 (.seq (.seq (.region [⟨(some 9), .mov (.t 0), none⟩,
  ⟨(some 10), .len false (.t 9), none⟩,
  ⟨(some 11), .mov (.c (.int .i64 0)), none⟩] none)
 (.block 0 (.loop b44_0)))
 (.seq (.seq (.region [⟨(some 31), .mov (.t 0), none⟩,
  ⟨(some 32), .len false (.t 31), none⟩,
  ⟨(some 33), .mov (.t 1), none⟩,
  ⟨(some 34), .len false (.t 33), none⟩,
  ⟨(some 35), .bin .lss (.t 32) (.t 34), none⟩] none)
 (.cond (.t 35) (.seq (.region [⟨(some 4), .mov (.c (.int .i64 (-1))), none⟩] none)
 (.ret))
 (.skip)))
 (.seq (.region [⟨(some 4), .mov (.c (.int .i64 0)), none⟩] none)
 (.ret))))
theorem fn44 : env0.fn 44 = some ⟨36, ic44, [.t 4]⟩ := by kernel_rfl
def zmh : List Int → List Int → Int
 | [], [] => 0
 | [], _ :: _ => -1
 | _ :: _, [] => 1
 | a :: l, b :: m => if a < b then -1 else if b < a then 1 else zmh l m
def cmpI (a b : Int) : Int := if a < b then -1 else if b < a then 1 else 0
theorem nan69 (a : Int) : PF Try.prog 69 [.int .i64 a] (.bool false) := by
 refine zbd env0_ok fn69 [(0, .int .i64 a)] (by show 1 ≤ 6; decide) rfl fun w0 N0 => ?_
 unfold ic69
 repeat (first | refine za6 ?_ | refine za0 rfl ?_ | refine za3 ?_ | refine za4 ?_ | refine za1 rfl ?_)
 refine zb5 rfl rfl (by show some (AV.bool (!(a == a))) = _; simp) ?_
 repeat (first | refine za3 ?_ | refine za4 ?_ | refine zas ?_ | refine za1 rfl ?_)
 exact zal ⟨.inr rfl, _, rfl, rfl⟩
theorem cmp64 (a b : Int) : PF Try.prog 64 [.int .i64 a, .int .i64 b] (.int .i64 (cmpI a b)) := by
 have p1 := nan69 a
 have p2 := nan69 b
 refine zbd env0_ok fn64 [(0, .int .i64 a), (1, .int .i64 b)] (by show 2 ≤ 20; decide) rfl fun w0 N0 => ?_
 unfold ic64 cmpI
 repeat (first | refine za6 ?_ | refine za0 rfl ?_ | refine za3 ?_ | refine za4 ?_ | refine za1 rfl ?_)
 refine zay rfl rfl p1 (fun h => Bool.noConfusion (show false = true from h)) ?_
 repeat (first | refine za6 ?_ | refine za0 rfl ?_ | refine za3 ?_ | refine za4 ?_ | refine za1 rfl ?_)
 refine zay rfl rfl p2 (fun h => Bool.noConfusion (show false = true from h)) ?_
 repeat (first | refine za6 ?_ | refine za0 rfl ?_ | refine za3 ?_ | refine za4 ?_ | refine zad ?_ | refine zbt rfl ?_ | refine za1 rfl ?_)
 refine zax rfl rfl rfl (fun h => ?_) fun h => ?_
 ·rw [if_pos (of_decide_eq_true h)]
  repeat (first | refine za6 ?_ | refine za0 rfl ?_ | refine za3 ?_ | refine za4 ?_ | refine zc1 rfl ?_ | refine zas ?_ | refine za8 ?_ | refine za1 rfl ?_)
  exact zal ⟨.inr rfl, _, rfl, rfl⟩
 rw [if_neg (of_decide_eq_false h)]
 repeat (first | refine za6 ?_ | refine za0 rfl ?_ | refine za3 ?_ | refine za4 ?_ | refine zad ?_ | refine zbt rfl ?_ | refine za1 rfl ?_)
 refine zax rfl rfl rfl (fun h => ?_) fun h => ?_
 ·rw [if_pos (show b < a from of_decide_eq_true h)]
  repeat (first | refine za6 ?_ | refine za0 rfl ?_ | refine za3 ?_ | refine za4 ?_ | refine zc1 rfl ?_ | refine zas ?_ | refine za8 ?_ | refine za1 rfl ?_)
  exact zal ⟨.inr rfl, _, rfl, rfl⟩
 ·rw [if_neg (show ¬ b < a from of_decide_eq_false h)]
  repeat (first | refine za6 ?_ | refine za0 rfl ?_ | refine za3 ?_ | refine za4 ?_ | refine zad ?_ | refine zbt rfl ?_ | refine zas ?_ | refine za1 rfl ?_)
  exact zal ⟨.inr rfl, _, rfl, rfl⟩
theorem ztf {a b : List Int} {i : Nat} (ha : i < a.length) (hb : i < b.length) : zmh (a.drop i) (b.drop i) = if cmpI a[i] b[i] = 0 then zmh (a.drop (i + 1)) (b.drop (i + 1)) else cmpI a[i] b[i] := by
 rw [List.drop_eq_getElem_cons ha, List.drop_eq_getElem_cons hb, zmh]
 unfold cmpI
 split
 ·simp
 split
 ·simp
 ·simp
theorem cmp44 (a b : List Int) (ha : a.length ≤ 1000000) : PF Try.prog 44 [vsI a, vsI b] (.int .i64 (zmh a b)) := by
 have hva : (a.map fun z => ([.int .i64 z] : List AV)).length = a.length := List.length_map ..
 have hvb : (b.map fun z => ([.int .i64 z] : List AV)).length = b.length := List.length_map ..
 refine zbd env0_ok fn44 [(0, vsI a), (1, vsI b)] (by show 2 ≤ 36; decide) rfl fun w0 N0 => ?_
 unfold ic44
 repeat (first | refine za6 ?_ | refine za0 rfl ?_ | refine za3 ?_ | refine za4 ?_ | refine zai ?_ | refine za1 rfl ?_ | refine zbf rfl rfl ?_)
 unfold vsI
 refine zcr (fun mm S => ∃ i, mm = a.length - i ∧ i ≤ a.length ∧ i ≤ b.length ∧ zmh a b = zmh (a.drop i) (b.drop i) ∧ S = st 36 [(0, vsI a), (1, vsI b), (9, vsI a), (10, .int .i64 a.length), (11, .int .i64 (i : Nat))] [] 0 1) a.length
  (zet [] [] rfl rfl rfl .nil .nil (l' := [(0, vsI a), (1, vsI b), (9, vsI a), (10, .int .i64 a.length), (11, .int .i64 ((0 : Nat) : Int))]) (.cons rfl (.same rfl) (.cons rfl (.same rfl) (.cons rfl (.same rfl) (.cons (by rw [← hva]; rfl) (.same rfl) (.cons rfl (.same rfl) .nil)))))) ⟨0, rfl, Nat.zero_le _, Nat.zero_le _, rfl, rfl⟩ ?_
 rintro mm S ⟨i, rfl, hi, hib, hall, rfl⟩
 rw [hall]
 clear hall
 unfold b44_0 vsI
 repeat (first | refine za6 ?_ | refine za0 rfl ?_)
 refine zax rfl rfl rfl (fun h3 => ?_) fun h3 => ?_
 ·have hlt : i < a.length := Int.ofNat_lt.1 (of_decide_eq_true h3)
  have hg := zev hlt
  repeat (first | refine za6 ?_ | refine za0 rfl ?_ | refine za3 ?_ | refine za4 ?_ | refine zai ?_ | refine zad ?_ | refine zc1 rfl ?_ | refine za1 rfl ?_ | refine zah rfl rfl ?_ | refine zbf rfl rfl ?_ | refine zba rfl rfl (by omega) (by assumption) rfl ?_)
  refine zax rfl rfl (by show some (AV.bool (decide (((i : Nat) : Int) ≥ ((b.map fun z => ([.int .i64 z] : List AV)).length : Nat)))) = _; rw [hvb]) (fun h => ?_) fun h => ?_
  ·have h : ((i : Nat) : Int) ≥ (b.length : Nat) := of_decide_eq_true h
   have e : i = b.length := by omega
   rw [show b.drop i = [] from List.drop_eq_nil_of_le (by omega), List.drop_eq_getElem_cons hlt]
   repeat (first | refine za6 ?_ | refine za0 rfl ?_ | refine za3 ?_ | refine za4 ?_ | refine zc1 rfl ?_ | refine zas ?_ | refine za8 ?_ | refine zab ?_ | refine za1 rfl ?_)
   refine zbk ?_
   repeat (first | refine za8 ?_ | refine zab ?_)
   exact zal ⟨.inr rfl, _, rfl, rfl⟩
  have h : ¬ ((i : Nat) : Int) ≥ (b.length : Nat) := of_decide_eq_false h
  have hlb : i < b.length := by omega
  have hg2 := zev hlb
  have pc := cmp64 a[i] b[i]
  rw [ztf hlt hlb]
  repeat (first | refine za6 ?_ | refine za0 rfl ?_ | refine za3 ?_ | refine za4 ?_ | refine zad ?_ | refine zbt rfl ?_ | refine za1 rfl ?_ | refine zah rfl rfl ?_ | refine zba rfl rfl (by omega) (by assumption) rfl ?_)
  refine zay rfl rfl pc (fun h => Bool.noConfusion (show false = true from h)) ?_
  by_cases hz : cmpI a[i] b[i] = 0
  ·rw [if_pos hz, hz]
   repeat (first | refine za6 ?_ | refine za0 rfl ?_ | refine za3 ?_ | refine za4 ?_ | refine zbj ?_ | refine zad ?_ | refine zbt rfl ?_ | refine za1 rfl ?_ | refine zac (op := .add) rfl rfl rfl ?_ | refine zb5 rfl rfl rfl ?_)
   rw [zb0 i (by omega)]
   exact zb4 (show a.length - (i + 1) < a.length - i by omega) (zaa (.cons rfl (.cons rfl (.cons rfl (.cons rfl (.cons rfl .nil)))))) ⟨i + 1, rfl, hlt, hlb, rfl, rfl⟩
  ·rw [if_neg hz]
   repeat (first | refine za6 ?_ | refine za0 rfl ?_ | refine za3 ?_ | refine za4 ?_ | refine za1 rfl ?_)
   refine zax rfl rfl rfl (fun h => ?_) fun h => absurd (by simpa using h) hz
   repeat (first | refine za6 ?_ | refine za0 rfl ?_ | refine za3 ?_ | refine za4 ?_ | refine zc1 rfl ?_ | refine zas ?_ | refine za8 ?_ | refine zab ?_ | refine za1 rfl ?_)
   refine zbk ?_
   repeat (first | refine za8 ?_ | refine zab ?_)
   exact zal ⟨.inr rfl, _, rfl, rfl⟩
 ·have hi2 : i = a.length := by
   have : ¬ i < a.length := fun h => of_decide_eq_false h3 (Int.ofNat_lt.2 h)
   omega
  subst hi2
  rw [List.drop_length]
  repeat (first | refine za6 ?_ | refine za3 ?_ | refine za4 ?_ | refine zbt rfl ?_ | refine zbc ?_ | refine zaf ?_)
  refine ze6 ?_
  repeat (first | refine za6 ?_ | refine za0 rfl ?_ | refine za4 ?_ | refine zbb ?_ | refine za1 rfl ?_ | refine zbf rfl rfl ?_)
  refine zax rfl rfl (by show some (AV.bool (decide ((((a.map fun z => ([.int .i64 z] : List AV)).length : Nat) : Int) < ((b.map fun z => ([.int .i64 z] : List AV)).length : Nat)))) = _; rw [hva, hvb]) (fun h => ?_) fun h => ?_
  ·have h : ((a.length : Nat) : Int) < (b.length : Nat) := of_decide_eq_true h
   rw [List.drop_eq_getElem_cons (by omega : a.length < b.length)]
   repeat (first | refine za6 ?_ | refine za0 rfl ?_ | refine za3 ?_ | refine za4 ?_ | refine zc1 rfl ?_ | refine zas ?_ | refine za8 ?_ | refine za1 rfl ?_)
   exact zal ⟨.inr rfl, _, rfl, rfl⟩
  ·have h : ¬ ((a.length : Nat) : Int) < (b.length : Nat) := of_decide_eq_false h
   rw [show b.drop a.length = [] from List.drop_eq_nil_of_le (by omega)]
   repeat (first | refine za6 ?_ | refine za0 rfl ?_ | refine za3 ?_ | refine za4 ?_ | refine zad ?_ | refine zbt rfl ?_ | refine zas ?_ | refine za1 rfl ?_)
   exact zal ⟨.inr rfl, _, rfl, rfl⟩
end Go.Proofs.Ytknomkcdpcnmaaa
