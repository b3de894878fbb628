/-
  ELEMENTS THAT ARE APART: setcover.Apart.
-/
import Derived.Test.YtknomkcdpcnmaaaEVH
import Derived.Test.YtknomkcdpcnmaaaEV4
import Derived.Test.YtknomkcdpcnmaaaEVD
namespace Go.Proofs.Ytknomkcdpcnmaaa
open Go Go.Am
theorem zqe {N : Nat} {s : List (BitVec 64)} {z : Int} (h0 : 0 ≤ z) (h1 : z < N) : ((List.range N).map fun k => [cU (zcf s k)])[z.toNat]? = some [cU (zcf s z.toNat)] := by
 rw [List.getElem?_map, List.getElem?_range (by omega)]
 rfl
def apR (s : List (BitVec 64)) (a : Int) (l : List Int) : Bool := l.all fun b => !(zcf s a.toNat).getLsbD b.toNat
def apT (s : List (BitVec 64)) (l : List Int) (i : Nat) : Bool := (List.range i).all fun k => apR s (l.getD k 0) (l.take k)
theorem apT_succ {s : List (BitVec 64)} {l : List Int} {i : Nat} (h : i < l.length) : apT s l (i + 1) = (apT s l i && apR s l[i] (l.take i)) := by
 unfold apT
 have e : l.getD i 0 = l[i] := by rw [List.getD_eq_getElem?_getD, List.getElem?_eq_getElem h]; rfl
 rw [List.range_succ, List.all_append]
 show (_ && (apR s (l.getD i 0) (l.take i) && true)) = _
 rw [e, Bool.and_true]
theorem apR_succ {s : List (BitVec 64)} {a : Int} {l : List Int} {j : Nat} (h : j < l.length) : apR s a (l.take (j + 1)) = (apR s a (l.take j) && !(zcf s a.toNat).getLsbD l[j].toNat) := by
 unfold apR
 rw [List.take_add_one, List.getElem?_eq_getElem h, List.all_append]
 simp
theorem zst {s : List (BitVec 64)} {a : Int} {l : List Int} {j : Nat} (h : j < l.length) (hb : (zcf s a.toNat).getLsbD l[j].toNat = true) : apR s a l = false := by
 unfold apR
 rw [List.all_eq_false]
 exact ⟨l[j], List.getElem_mem h, by rw [hb]; decide⟩
theorem zsu {s : List (BitVec 64)} {l : List Int} {i : Nat} (h : i < l.length) (hb : apR s l[i] (l.take i) = false) : apT s l l.length = false := by
 unfold apT
 rw [List.all_eq_false]
 refine ⟨i, List.mem_range.2 h, ?_⟩
 rw [List.getD_eq_getElem?_getD, List.getElem?_eq_getElem h]
 show ¬ apR s l[i] (l.take i) = true
 rw [hb]
 decide
def apaV (n : Int) (s : List (BitVec 64)) (l : List Int) : AV := if givE n s l n = 0 then .tup [.bool (apT s l l.length), .int .i64 0] else .tup [.bool false, .int .i64 (givE n s l n)]
def b17_2 : IC := .seq (.region [⟨(some 34), .bin .lss (.t 33) (.t 32), none⟩] none)
 (.seq (.cond (.t 34) (.skip)
 (.exit 2))
 (.seq (.block 3 (.seq (.region [⟨(some 35), .idxs 1 (.t 31) (.t 33), none⟩,
  ⟨(some 36), .load none (.t 35), none⟩,
  ⟨(some 11), .mov (.t 36), none⟩] none)
 (.seq (.region [⟨(some 37), .mov (.t 7), none⟩,
  ⟨(some 38), .mov (.t 9), none⟩,
  ⟨(some 39), .idxs 1 (.t 37) (.t 38), none⟩,
  ⟨(some 40), .load none (.t 39), none⟩,
  ⟨(some 41), .mov (.t 11), none⟩,
  ⟨(some 42), .bin .shr (.t 40) (.t 41), none⟩,
  ⟨(some 43), .bin .and (.t 42) (.c (.int .u64 1)), none⟩,
  ⟨(some 44), .bin .eql (.t 43) (.c (.int .u64 1)), none⟩] none)
 (.cond (.t 44) (.seq (.region [⟨(some 4), .mov (.c (.bool false)), none⟩,
  ⟨(some 5), .mov (.c (.int .i64 0)), none⟩] none)
 (.ret))
 (.skip)))))
 (.region [⟨(some 45), .bin .add (.t 33) (.c (.int .i64 1)), none⟩,
  ⟨(some 33), .mov (.t 45), none⟩] none)))
def b17_0 : IC := .seq (.region [⟨(some 25), .bin .lss (.t 24) (.t 23), none⟩] none)
 (.seq (.cond (.t 25) (.skip)
 (.exit 0))
 (.seq (.block 1 (.seq (.region [⟨(some 26), .mov (.t 24), none⟩,
  ⟨(some 27), .idxs 1 (.t 22) (.t 24), none⟩,
  ⟨(some 28), .load none (.t 27), none⟩,
  ⟨(some 8), .mov (.t 26), none⟩,
  ⟨(some 9), .mov (.t 28), none⟩] none)
 (.seq (.region [⟨(some 29), .mov (.t 1), none⟩,
  ⟨(some 30), .mov (.t 8), none⟩,
  ⟨(some 31), .slsl 1 (.t 29) none (some (.t 30)) none, none⟩,
  ⟨(some 32), .len false (.t 31), none⟩,
  ⟨(some 33), .mov (.c (.int .i64 0)), none⟩] none)
 (.block 2 (.loop b17_2)))))
 (.region [⟨(some 46), .bin .add (.t 24) (.c (.int .i64 1)), none⟩,
  ⟨(some 24), .mov (.t 46), none⟩] none)))
-- pneumatic/setcover.Apart
def ic17 : IC := .seq (.region [⟨(some 2), .box (.t 0), none⟩,
  ⟨(some 4), .mov (.c (.bool false)), none⟩,
  ⟨(some 5), .mov (.c (.int .i64 0)), none⟩] none)
 (.seq (.seq (.region [⟨(some 12), .load (some 2) (.t 2), none⟩,
  ⟨(some 13), .mov (.t 1), none⟩,
  ⟨(some 14), .faddr 0 (.t 2), none⟩,
  ⟨(some 15), .load none (.t 14), none⟩,
  ⟨(some 16), .call (.c (.fn 48 [] [])) [(.t 12), (.t 13), (.t 15)], none⟩,
  ⟨(some 6), .mov (.t 16), none⟩] none)
 (.seq (.region [⟨(some 17), .mov (.t 6), none⟩,
  ⟨(some 18), .bin .neq (.t 17) (.c (.int .i64 0)), none⟩] none)
 (.cond (.t 18) (.seq (.region [⟨(some 19), .mov (.t 6), none⟩,
  ⟨(some 4), .mov (.c (.bool false)), none⟩,
  ⟨(some 5), .mov (.t 19), none⟩] none)
 (.ret))
 (.skip))))
 (.seq (.region [⟨(some 20), .load (some 2) (.t 2), none⟩,
  ⟨(some 21), .call (.c (.fn 49 [] [])) [(.t 20)], none⟩,
  ⟨(some 7), .mov (.t 21), none⟩] none)
 (.seq (.seq (.region [⟨(some 22), .mov (.t 1), none⟩,
  ⟨(some 23), .len false (.t 22), none⟩,
  ⟨(some 24), .mov (.c (.int .i64 0)), none⟩] none)
 (.block 0 (.loop b17_0)))
 (.seq (.region [⟨(some 4), .mov (.c (.bool true)), none⟩,
  ⟨(some 5), .mov (.c (.int .i64 0)), none⟩] none)
 (.ret)))))
theorem fn17 : env0.fn 17 = some ⟨47, ic17, [.t 4, .t 5]⟩ := by kernel_rfl
set_option maxHeartbeats 4000000 in
theorem apart17 (n : Int) (s : List (BitVec 64)) (l : List Int) (hl : l.length ≤ 1000000) : PF Try.prog 17 [cF n s, vsI l] (apaV n s l) := by
 have pG := given48 n s l hl n
 have hvl := zns l
 refine zbd env0_ok fn17 [(0, cF n s), (1, .vs (vL l))] (by show 2 ≤ 47; decide) rfl fun w0 N0 => ?_
 unfold ic17 apaV
 refine za6 (za0 rfl (zd7 (cs := [.int .i64 n, .vs (cUs s)]) rfl rfl (za1 rfl (za1 rfl (za3 (za4 ?_))))))
 refine zd0 [] [(0, 0, [.int .i64 n, .vs (cUs s)])] [(1, .vs (vL l)), (2, .vptr [.int .i64 n, .vs (cUs s)])] rfl (.cons rfl rfl .nil) .nil (.cons rfl (.same rfl) (.cons rfl (.fptr rfl rfl) .nil)) ?_
 repeat (first | refine za6 ?_ | refine za0 rfl ?_ | refine za1 rfl ?_ | refine zah rfl rfl ?_ | refine zb2 rfl rfl rfl rfl ?_ | refine za9 rfl rfl rfl ?_)
 refine zay rfl rfl pG (fun h => Bool.noConfusion (show false = true from h)) ?_
 by_cases hg : givE n s l n = 0
 ·rw [if_pos hg, hg]
  obtain ⟨hc, ho⟩ := giv_ok hg
  obtain ⟨n0, n1, s1, _⟩ := zf2 hc
  have hin := zv8 ho
  obtain ⟨N, rfl⟩ : ∃ N : Nat, n = (N : Int) := ⟨n.toNat, by omega⟩
  have pN := near49 N (by omega) s (by omega)
  have hin2 : ∀ (i : Nat) (h : i < l.length), 0 ≤ l[i] ∧ l[i] < N := fun i h => ⟨(hin _ (List.getElem_mem h)).1, (hin _ (List.getElem_mem h)).2.1⟩
  repeat (first | refine za6 ?_ | refine za0 rfl ?_ | refine za3 ?_ | refine za4 ?_ | refine zad ?_ | refine zbt rfl ?_ | refine za1 rfl ?_ | refine zb2 rfl rfl rfl rfl ?_ | refine zb5 rfl rfl rfl ?_)
  refine zqg rfl rfl pN ?_
  repeat (first | refine za6 ?_ | refine za0 rfl ?_ | refine za3 ?_ | refine za4 ?_ | refine zai ?_ | refine za1 rfl ?_ | refine zbf rfl rfl ?_)
  refine zcr (fun mm S => ∃ i, mm = l.length - i ∧ i ≤ l.length ∧ apT s l i = true ∧ S = st 47 [(1, .vs (vL l)), (7, zg5 N s), (22, .vs (vL l)), (23, .int .i64 l.length), (24, .int .i64 (i : Nat))] [] 0 1) l.length
   (zaa (.cons rfl (.cons rfl (.cons rfl (.cons (by rw [← hvl]; rfl) (.cons rfl .nil)))))) ⟨0, rfl, Nat.zero_le _, rfl, rfl⟩ ?_
  rintro mm S ⟨i, rfl, hi, hap, rfl⟩
  unfold b17_0
  repeat (first | refine za6 ?_ | refine za0 rfl ?_)
  refine zax rfl rfl rfl (fun h3 => ?_) fun h3 => ?_
  ·have hlt : i < l.length := Int.ofNat_lt.1 (of_decide_eq_true h3)
   have hg : (vL l)[((i : Nat) : Int).toNat]? = some [.int .i64 l[i]] := zev hlt
   obtain ⟨a0, a1⟩ := hin2 i hlt
   have hst := apT_succ (s := s) hlt
   have hfa := zsu (s := s) hlt
   have hva := zqe (s := s) a0 a1
   generalize l[i] = a at *
   have htl : (l.take i).length = i := by rw [List.length_take]; omega
   repeat (first | refine za6 ?_ | refine za0 rfl ?_ | refine za3 ?_ | refine za4 ?_ | refine zai ?_ | refine zad ?_ | refine zc1 rfl ?_ | refine za1 rfl ?_ | refine zah rfl rfl ?_ | refine zba rfl rfl (by omega) (by assumption) rfl ?_)
   refine o_slv (fs := vL (l.take i)) rfl rfl rfl rfl rfl (Int.le_refl _) (Int.natCast_nonneg i) (by rw [hvl]; omega) (vL_size l) (by rw [Int.toNat_natCast, show (0 : Int).toNat = 0 from rfl, List.drop_zero, Nat.sub_zero, vL_take]) ?_
   repeat (first | refine za3 ?_ | refine za4 ?_ | refine zai ?_ | refine za1 rfl ?_ | refine zbf rfl rfl ?_)
   refine zcr (fun mm S => ∃ j, mm = i - j ∧ j ≤ i ∧ apR s a ((l.take i).take j) = true ∧ S = st 47 [(1, .vs (vL l)), (7, zg5 N s), (22, .vs (vL l)), (23, .int .i64 l.length), (24, .int .i64 (i : Nat)), (9, .int .i64 a), (31, .vs (vL (l.take i))), (32, .int .i64 (i : Nat)), (33, .int .i64 (j : Nat))] [] 0 1) i
    (zaa (.cons rfl (.cons rfl (.cons rfl (.cons rfl (.cons rfl (.cons rfl (.cons rfl (.cons (by show some (AV.int .i64 ((vL (l.take i)).length : Nat)) = some (AV.int .i64 (i : Nat)); rw [zns, htl]) (.cons rfl .nil)))))))))) ⟨0, rfl, Nat.zero_le _, rfl, rfl⟩ ?_
   rintro mm S ⟨j, rfl, hj, har, rfl⟩
   unfold b17_2
   repeat (first | refine za6 ?_ | refine za0 rfl ?_)
   refine zax rfl rfl rfl (fun h4 => ?_) fun h4 => ?_
   ·have hlt2 : j < i := Int.ofNat_lt.1 (of_decide_eq_true h4)
    have hltt : j < (l.take i).length := by omega
    have hg2 : (vL (l.take i))[((j : Nat) : Int).toNat]? = some [.int .i64 (l.take i)[j]] := zev hltt
    have hbe : (l.take i)[j] = l[j]'(by omega) := List.getElem_take ..
    obtain ⟨b0, b1⟩ := hin2 j (by omega)
    rw [← hbe] at b0 b1
    have hrs := apR_succ (s := s) (a := a) hltt
    have hrf := zst (s := s) (a := a) hltt
    generalize (l.take i)[j] = b at *
    unfold zg5
    repeat (first | refine za6 ?_ | refine za0 rfl ?_ | refine za3 ?_ | refine za4 ?_ | refine zai ?_ | refine zad ?_ | refine zc1 rfl ?_ | refine za1 rfl ?_ | refine zah rfl rfl ?_ | refine zba rfl rfl (by omega) (by assumption) rfl ?_)
    obtain ⟨m, rfl⟩ : ∃ m : Nat, b = (m : Int) := ⟨b.toNat, by omega⟩
    refine zac rfl rfl (zdg _ (kd := .i64) (n := m) (by omega)) ?_
    refine zac rfl rfl (ze1 _ (1#64)) ?_
    rw [Int.toNat_natCast] at hrs hrf
    refine zax rfl rfl ((zdf _ (1#64)).trans (by rw [bit1])) (fun h5 => ?_) fun h5 => ?_
    ·rw [hfa (hrf h5)]
     repeat (first | refine za6 ?_ | refine za0 rfl ?_ | refine za3 ?_ | refine za4 ?_ | refine zc1 rfl ?_ | refine zas ?_ | refine za8 ?_ | refine zab ?_ | refine za1 rfl ?_)
     refine zbk ?_
     repeat (first | refine za8 ?_ | refine zab ?_)
     refine zbk ?_
     repeat (first | refine za8 ?_ | refine zab ?_)
     exact zal ⟨.inr rfl, _, rfl, rfl⟩
    ·repeat (first | refine za0 rfl ?_ | refine za3 ?_ | refine za4 ?_ | refine zbj ?_ | refine zad ?_ | refine zbt rfl ?_ | refine za1 rfl ?_ | refine zac (op := .add) rfl rfl rfl ?_)
     rw [zb0 j (by omega)]
     exact zb4 (show i - (j + 1) < i - j by omega) (zaa (.cons rfl (.cons rfl (.cons rfl (.cons rfl (.cons rfl (.cons rfl (.cons rfl (.cons rfl (.cons rfl .nil)))))))))) ⟨j + 1, rfl, hlt2, by rw [hrs, har, h5]; rfl, rfl⟩
   ·have hj2 : j = i := by
     have : ¬ j < i := fun h => of_decide_eq_false h4 (Int.ofNat_lt.2 h)
     omega
    rw [hj2, List.take_of_length_le (by omega)] at har
    repeat (first | refine za6 ?_ | refine za3 ?_ | refine za4 ?_ | refine zbt rfl ?_ | refine zbc ?_ | refine zaf ?_)
    refine ze6 ?_
    repeat (first | refine za0 rfl ?_ | refine za3 ?_ | refine za4 ?_ | refine zbj ?_ | refine zbb ?_ | refine za1 rfl ?_ | refine zac (op := .add) rfl rfl rfl ?_)
    rw [zb0 i (by omega)]
    exact zb4 (show l.length - (i + 1) < l.length - i by omega) (zaa (.cons rfl (.cons rfl (.cons rfl (.cons rfl (.cons rfl .nil)))))) ⟨i + 1, rfl, hlt, by rw [hst, hap, har]; rfl, rfl⟩
  ·have hi2 : i = l.length := by
    have : ¬ i < l.length := fun h => of_decide_eq_false h3 (Int.ofNat_lt.2 h)
    omega
   rw [hi2] at hap
   rw [hap]
   repeat (first | refine za6 ?_ | refine za3 ?_ | refine za4 ?_ | refine zbt rfl ?_ | refine zbc ?_ | refine zaf ?_)
   refine ze6 ?_
   repeat (first | refine za6 ?_ | refine za0 rfl ?_ | refine za3 ?_ | refine za4 ?_ | refine zas ?_ | refine zbb ?_ | refine za1 rfl ?_)
   exact zal ⟨.inr rfl, _, rfl, rfl⟩
 ·rw [if_neg hg]
  repeat (first | refine za6 ?_ | refine za0 rfl ?_ | refine za3 ?_ | refine za4 ?_ | refine za1 rfl ?_)
  refine zax rfl rfl rfl (fun h => ?_) fun h => absurd (by simpa using h) hg
  repeat (first | refine za6 ?_ | refine za0 rfl ?_ | refine za3 ?_ | refine za4 ?_ | refine zc1 rfl ?_ | refine zas ?_ | refine za8 ?_ | refine za1 rfl ?_)
  exact zal ⟨.inr rfl, _, rfl, rfl⟩
end Go.Proofs.Ytknomkcdpcnmaaa
