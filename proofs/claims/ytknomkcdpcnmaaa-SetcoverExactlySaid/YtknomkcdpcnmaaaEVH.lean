/-
  ELEMENTS THAT ARE APART: setcover.near, setcover.Apart.
-/
import Derived.Test.YtknomkcdpcnmaaaEV2
import Derived.Test.YtknomkcdpcnmaaaES0
namespace Go.Proofs.Ytknomkcdpcnmaaa
open Go Go.Am
def b49_2 : IC := .seq (.region [⟨(some 20), .bin .lss (.t 19) (.t 18), none⟩] none)
 (.seq (.cond (.t 20) (.skip)
 (.exit 2))
 (.seq (.block 3 (.seq (.region [⟨(some 21), .mov (.t 19), none⟩,
  ⟨(some 6), .mov (.t 21), none⟩] none)
 (.seq (.region [⟨(some 22), .mov (.t 5), none⟩,
  ⟨(some 23), .mov (.t 6), none⟩,
  ⟨(some 24), .bin .shr (.t 22) (.t 23), none⟩,
  ⟨(some 25), .bin .and (.t 24) (.c (.int .u64 1)), none⟩,
  ⟨(some 26), .bin .eql (.t 25) (.c (.int .u64 1)), none⟩] none)
 (.cond (.t 26) (.region [⟨(some 27), .mov (.t 3), none⟩,
  ⟨(some 28), .mov (.t 6), none⟩,
  ⟨(some 29), .idxs 1 (.t 27) (.t 28), none⟩,
  ⟨(some 30), .load none (.t 29), none⟩,
  ⟨(some 31), .mov (.t 5), none⟩,
  ⟨(some 32), .bin .or (.t 30) (.t 31), none⟩,
  ⟨(some 33), .idxs 1 (.t 27) (.t 28), none⟩,
  ⟨none, .store 1 (.t 33) (.t 32), none⟩] none)
 (.skip)))))
 (.region [⟨(some 34), .bin .add (.t 19) (.c (.int .i64 1)), none⟩,
  ⟨(some 19), .mov (.t 34), none⟩] none)))
def b49_0 : IC := .seq (.region [⟨(some 14), .bin .lss (.t 13) (.t 12), none⟩] none)
 (.seq (.cond (.t 14) (.skip)
 (.exit 0))
 (.seq (.block 1 (.seq (.region [⟨(some 15), .idxs 1 (.t 11) (.t 13), none⟩,
  ⟨(some 16), .load none (.t 15), none⟩,
  ⟨(some 5), .mov (.t 16), none⟩] none)
 (.seq (.region [⟨(some 17), .mov (.t 3), none⟩,
  ⟨(some 18), .len false (.t 17), none⟩,
  ⟨(some 19), .mov (.c (.int .i64 0)), none⟩] none)
 (.block 2 (.loop b49_2)))))
 (.region [⟨(some 35), .bin .add (.t 13) (.c (.int .i64 1)), none⟩,
  ⟨(some 13), .mov (.t 35), none⟩] none)))
-- pneumatic/setcover.near
def ic49 : IC := .seq (.region [⟨(some 1), .box (.t 0), none⟩,
  ⟨(some 2), .mov (.c (.nils)), none⟩] none)
 (.seq (.region [⟨(some 7), .faddr 0 (.t 1), none⟩,
  ⟨(some 8), .load none (.t 7), none⟩,
  ⟨(some 9), .mkslice 1 8 [.int .u64 0] (.t 8) (.t 8), none⟩,
  ⟨(some 3), .mov (.t 9), none⟩] none)
 (.seq (.seq (.region [⟨(some 10), .faddr 1 (.t 1), none⟩,
  ⟨(some 11), .load none (.t 10), none⟩,
  ⟨(some 12), .len false (.t 11), none⟩,
  ⟨(some 13), .mov (.c (.int .i64 0)), none⟩] none)
 (.block 0 (.loop b49_0)))
 (.seq (.region [⟨(some 36), .mov (.t 3), none⟩,
  ⟨(some 2), .mov (.t 36), none⟩] none)
 (.ret))))
theorem fn49 : env0.fn 49 = some ⟨37, ic49, [.t 2]⟩ := by kernel_rfl
def zcf (s : List (BitVec 64)) (i : Nat) : BitVec 64 := s.foldl (fun a x => if x.getLsbD i = true then a ||| x else a) 0
theorem zkh (s : List (BitVec 64)) (x : BitVec 64) (i : Nat) : zcf (s ++ [x]) i = if x.getLsbD i = true then zcf s i ||| x else zcf s i := by
 unfold zcf
 rw [List.foldl_append]
 rfl
theorem bit1 (x : BitVec 64) (i : Nat) : ((x >>> i &&& 1#64) == 1#64) = x.getLsbD i := by
 have h : x >>> i &&& 1#64 = if x.getLsbD i = true then 1#64 else 0#64 := by
  apply BitVec.eq_of_getLsbD_eq
  intro j hj
  rw [BitVec.getLsbD_and, BitVec.getLsbD_ushiftRight, BitVec.getLsbD_one]
  by_cases h0 : j = 0
  ·subst h0
   cases x.getLsbD i <;> simp_all
  ·have : decide (0 < 64 ∧ j = 0) = false := by simp [h0]
   split <;> simp [h0]
 rw [h]
 cases x.getLsbD i <;> rfl
def zds (N : Nat) (t : List (BitVec 64)) (x : BitVec 64) (i : Nat) : List AV := (List.range N).map fun k => cU (if k < i then zcf (t ++ [x]) k else zcf t k)
def zgl (N : Nat) (t : List (BitVec 64)) : List AV := (List.range N).map fun k => cU (zcf t k)
theorem zrl (N : Nat) (t : List (BitVec 64)) (x : BitVec 64) : zds N t x 0 = zgl N t := by
 unfold zds zgl
 refine List.map_congr_left fun k _ => ?_
 rw [if_neg (Nat.not_lt_zero k)]
theorem zuy (N : Nat) (t : List (BitVec 64)) (x : BitVec 64) : zds N t x N = zgl N (t ++ [x]) := by
 unfold zds zgl
 refine List.map_congr_left fun k hk => ?_
 rw [if_pos (List.mem_range.1 hk)]
theorem zuz {N i : Nat} (t : List (BitVec 64)) (x : BitVec 64) (h : i < N) : (zds N t x i)[i]? = some (cU (zcf t i)) := by
 unfold zds
 rw [List.getElem?_map, List.getElem?_range h, Option.map_some, if_neg (Nat.lt_irrefl i)]
theorem zv0 (N : Nat) (t : List (BitVec 64)) (x : BitVec 64) (i : Nat) : (zds N t x i).length = N := by unfold zds; simp
theorem zv1 {N i : Nat} (t : List (BitVec 64)) (x : BitVec 64) (h : i < N) : (zds N t x i).set i (cU (zcf (t ++ [x]) i)) = zds N t x (i + 1) := by
 unfold zds
 apply List.ext_getElem?
 intro k
 rw [List.getElem?_set, List.getElem?_map, List.getElem?_map]
 by_cases hk : k < N
 ·rw [List.getElem?_range hk, Option.map_some, Option.map_some]
  by_cases e : i = k
  ·subst e
   rw [if_pos rfl, if_pos (by simp; exact h), if_pos (Nat.lt_succ_self i)]
  ·rw [if_neg e]
   by_cases h2 : k < i
   ·rw [if_pos h2, if_pos (by omega)]
   ·rw [if_neg h2, if_neg (by omega)]
 ·have h9 : (List.range N)[k]? = none := List.getElem?_eq_none (by simp; omega)
  rw [h9]
  by_cases e : i = k
  ·omega
  ·rw [if_neg e]
   rfl
theorem zrk {N i : Nat} (t : List (BitVec 64)) (x : BitVec 64) (hx : x.getLsbD i = false) : zds N t x (i + 1) = zds N t x i := by
 unfold zds
 refine List.map_congr_left fun k _ => ?_
 by_cases h : k < i
 ·rw [if_pos h, if_pos (by omega)]
 ·rw [if_neg h]
  by_cases e : k = i
  ·subst e
   rw [if_pos (Nat.lt_succ_self k), zkh, if_neg (by rw [hx]; decide)]
  ·rw [if_neg (by omega)]
theorem zl4 : ∀ l : List (BitVec 64), hasM.hasML (l.map cU) = false
 | [] => rfl
 | b :: l => by
  have := zl4 l
  show (hasM (cU b) || hasM.hasML (l.map cU)) = false
  rw [this]
  rfl
theorem zki (N : Nat) (t : List (BitVec 64)) (x : BitVec 64) (i : Nat) : hasM.hasML (zds N t x i) = false := by
 have : zds N t x i = ((List.range N).map fun k => (if k < i then zcf (t ++ [x]) k else zcf t k)).map cU := by unfold zds; rw [List.map_map]; rfl
 rw [this]
 exact zl4 _
theorem zrm (N : Nat) (t : List (BitVec 64)) : hasM.hasML (zgl N t) = false := by
 have : zgl N t = ((List.range N).map fun k => zcf t k).map cU := by unfold zgl; rw [List.map_map]; rfl
 rw [this]
 exact zl4 _
theorem zq1 : ∀ l : List (BitVec 64), flat.flatL (l.map cU) = true
 | [] => rfl
 | z :: l => by
  show (flat (cU z) && flat.flatL (l.map cU)) = true
  rw [zq1 l]
  rfl
theorem zvi (N : Nat) : zjw N [.int .u64 0] = zgl N [] := by
 have h : ∀ (f : Nat → Nat) (N : Nat), zjw N [.int .u64 0] = (List.range N).map fun k => cU (zcf [] (f k)) := fun f N => by
  induction N with
  | zero => rfl
  | succ N ih =>
   have e : ∀ M : Nat, zjw (M + 1) [AV.int .u64 0] = zjw M [AV.int .u64 0] ++ [AV.int .u64 0] := fun M => by
    induction M with
    | zero => rfl
    | succ M ih2 =>
     show [AV.int .u64 0] ++ zjw (M + 1) [AV.int .u64 0] = ([AV.int .u64 0] ++ zjw M [AV.int .u64 0]) ++ [AV.int .u64 0]
     rw [ih2, List.append_assoc]
   rw [e, ih, List.range_succ, List.map_append]
   rfl
 exact h id N
def zg5 (N : Nat) (s : List (BitVec 64)) : AV := .vs ((List.range N).map fun k => [cU (zcf s k)])
set_option maxHeartbeats 4000000 in
theorem near49 (N : Nat) (hN : N ≤ 64) (s : List (BitVec 64)) (hs : s.length ≤ 1000000) : PFn Try.prog 49 [cF N s] (zg5 N s) := by
 have hcl := zbh s
 refine zp8 env0_ok fn49 [(0, cF N s)] (by show 1 ≤ 37; decide) rfl fun w0 N0 => ?_
 unfold ic49
 refine za6 (za0 rfl (zd7 (cs := [.int .i64 (N : Nat), .vs (cUs s)]) rfl rfl (za1 rfl (za3 (za4 ?_)))))
 refine zd0 [] [(0, 0, [.int .i64 (N : Nat), .vs (cUs s)])] [(1, .vptr [.int .i64 (N : Nat), .vs (cUs s)])] rfl (.cons rfl rfl .nil) .nil (.cons rfl (.fptr rfl rfl) .nil) ?_
 repeat (first | refine za6 ?_ | refine za0 rfl ?_ | refine zah rfl rfl ?_ | refine za9 rfl rfl rfl ?_)
 refine o_mks rfl rfl (by omega) ?_
 rw [Int.toNat_natCast, zvi]
 repeat (first | refine za6 ?_ | refine za0 rfl ?_ | refine za3 ?_ | refine za4 ?_ | refine zai ?_ | refine za1 rfl ?_ | refine zah rfl rfl ?_ | refine za9 rfl rfl rfl ?_ | refine zbf rfl rfl ?_)
 refine zcr (fun mm S => ∃ j, mm = s.length - j ∧ j ≤ s.length ∧ S = st 37 [(1, .vptr [.int .i64 (N : Nat), .vs (cUs s)]), (3, .ms 0 0 1 0 N (some N)), (11, .vs (cUs s)), (12, .int .i64 (cUs s).length), (13, .int .i64 (j : Nat))] [(0, 0, .cells (zgl N (s.take j)))] 1 1) s.length
  (zet [(some (0, 1), zgl N [])] [] rfl rfl rfl .nil (.cons rfl (.keep (zrm _ _)) .nil) (l' := [(1, .vptr [.int .i64 (N : Nat), .vs (cUs s)]), (3, .ms 0 0 1 0 N (some N)), (11, .vs (cUs s)), (12, .int .i64 (cUs s).length), (13, .int .i64 ((0 : Nat) : Int))]) (.cons rfl (.same rfl) (.cons rfl (.ms rfl) (.cons rfl (.same rfl) (.cons rfl (.same rfl) (.cons rfl (.same rfl) .nil)))))) ⟨0, rfl, Nat.zero_le _, rfl⟩ ?_
 rintro mm S ⟨j, rfl, hj, rfl⟩
 unfold b49_0
 repeat (first | refine za6 ?_ | refine za0 rfl ?_)
 refine zax rfl rfl rfl (fun h3 => ?_) fun h3 => ?_
 ·have hlt : j < s.length := by
   have : ((j : Nat) : Int) < ((cUs s).length : Nat) := of_decide_eq_true h3
   omega
  have hg := zid hlt
  have htk : s.take (j + 1) = s.take j ++ [s[j]] := by rw [List.take_add_one, List.getElem?_eq_getElem hlt]; rfl
  generalize s[j] = x at *
  repeat (first | refine za6 ?_ | refine za0 rfl ?_ | refine za3 ?_ | refine za4 ?_ | refine zai ?_ | refine zad ?_ | refine zc1 rfl ?_ | refine za1 rfl ?_ | refine zah rfl rfl ?_ | refine zbf rfl rfl ?_ | refine zba rfl rfl (by omega) (by assumption) rfl ?_)
  refine zcr (fun mm S => ∃ i, mm = N - i ∧ i ≤ N ∧ S = st 37 [(1, .vptr [.int .i64 (N : Nat), .vs (cUs s)]), (3, .ms 0 0 1 0 N (some N)), (11, .vs (cUs s)), (12, .int .i64 (cUs s).length), (13, .int .i64 (j : Nat)), (5, cU x), (18, .int .i64 (N : Nat)), (19, .int .i64 (i : Nat))] [(0, 0, .cells (zds N (s.take j) x i))] 1 1) N
   (zet [(some (0, 0), zds N (s.take j) x 0)] [] rfl rfl rfl .nil (.cons (by rw [zrl]; rfl) (.keep (zki _ _ _ _)) .nil) (l' := [(1, .vptr [.int .i64 (N : Nat), .vs (cUs s)]), (3, .ms 0 0 1 0 N (some N)), (11, .vs (cUs s)), (12, .int .i64 (cUs s).length), (13, .int .i64 (j : Nat)), (5, cU x), (18, .int .i64 (N : Nat)), (19, .int .i64 ((0 : Nat) : Int))]) (.cons rfl (.same rfl) (.cons rfl (.ms rfl) (.cons rfl (.same rfl) (.cons rfl (.same rfl) (.cons rfl (.same rfl) (.cons rfl (.same rfl) (.cons rfl (.same rfl) (.cons rfl (.same rfl) .nil))))))))) ⟨0, rfl, Nat.zero_le _, rfl⟩ ?_
  rintro mm S ⟨i, rfl, hi, rfl⟩
  unfold b49_2
  repeat (first | refine za6 ?_ | refine za0 rfl ?_)
  refine zax rfl rfl rfl (fun h4 => ?_) fun h4 => ?_
  ·have hlt2 : i < N := Int.ofNat_lt.1 (of_decide_eq_true h4)
   repeat (first | refine za6 ?_ | refine za0 rfl ?_ | refine za3 ?_ | refine za4 ?_ | refine zai ?_ | refine zad ?_ | refine zc1 rfl ?_ | refine za1 rfl ?_)
   refine zac rfl rfl (zdg x (kd := .i64) (n := i) (by omega)) ?_
   refine zac rfl rfl (ze1 _ (1#64)) ?_
   refine zax rfl rfl ((zdf _ (1#64)).trans (by rw [bit1])) (fun h5 => ?_) fun h5 => ?_
   ·repeat (first | refine za0 rfl ?_ | refine za3 ?_ | refine za4 ?_ | refine zc1 rfl ?_ | refine za1 rfl ?_)
    refine zbv rfl rfl (Int.natCast_nonneg i) (by omega) ?_
    refine zjc rfl zav (Nat.lt_succ_self _) (by rw [Nat.zero_add, Int.toNat_natCast, Nat.mul_one]; exact zuz (s.take j) x hlt2) ?_
    refine za1 rfl (zac rfl rfl (zhg _ _) ?_)
    refine zbv rfl rfl (Int.natCast_nonneg i) (by omega) ?_
    refine zlv rfl rfl rfl zav (by rw [zv0]; omega) rfl ?_
    have hset : (zds N (s.take j) x i).set (0 + ((i : Nat) : Int).toNat * 1) (cU (zcf (s.take j) i ||| x)) = zds N (s.take j) x (i + 1) := by
     have h5 : x.getLsbD i = true := h5
     rw [Nat.zero_add, Int.toNat_natCast, Nat.mul_one, ← zv1 (s.take j) x hlt2, zkh, if_pos h5]
    rw [hset]
    repeat (first | refine za0 rfl ?_ | refine za3 ?_ | refine za4 ?_ | refine zbj ?_ | refine za1 rfl ?_ | refine zac (op := .add) rfl rfl rfl ?_)
    rw [zb0 i (by omega)]
    exact zb4 (show N - (i + 1) < N - i by omega) (zet [(some (0, 0), zds N (s.take j) x (i + 1))] [] rfl rfl rfl .nil (.cons rfl (.keep (zki _ _ _ _)) .nil) (.cons rfl (.same rfl) (.cons rfl (.ms rfl) (.cons rfl (.same rfl) (.cons rfl (.same rfl) (.cons rfl (.same rfl) (.cons rfl (.same rfl) (.cons rfl (.same rfl) (.cons rfl (.same rfl) .nil))))))))) ⟨i + 1, rfl, hlt2, rfl⟩
   ·repeat (first | refine za0 rfl ?_ | refine za3 ?_ | refine za4 ?_ | refine zbj ?_ | refine zad ?_ | refine zbt rfl ?_ | refine za1 rfl ?_ | refine zac (op := .add) rfl rfl rfl ?_)
    rw [zb0 i (by omega)]
    exact zb4 (show N - (i + 1) < N - i by omega) (zaa (.cons rfl (.cons rfl (.cons rfl (.cons rfl (.cons rfl (.cons rfl (.cons rfl (.cons rfl .nil))))))))) ⟨i + 1, rfl, hlt2, by rw [zrk (s.take j) x h5]⟩
  ·have hi2 : i = N := by
    have : ¬ i < N := fun h => of_decide_eq_false h4 (Int.ofNat_lt.2 h)
    omega
   rw [hi2, zuy, ← htk]
   repeat (first | refine za6 ?_ | refine za3 ?_ | refine za4 ?_ | refine zbt rfl ?_ | refine zbc ?_ | refine zaf ?_)
   refine ze6 ?_
   repeat (first | refine za0 rfl ?_ | refine za3 ?_ | refine za4 ?_ | refine zbj ?_ | refine zbb ?_ | refine za1 rfl ?_ | refine zac (op := .add) rfl rfl rfl ?_)
   rw [zb0 j (by omega)]
   exact zb4 (show s.length - (j + 1) < s.length - j by omega) (zaa (.cons rfl (.cons rfl (.cons rfl (.cons rfl (.cons rfl .nil)))))) ⟨j + 1, rfl, hlt, rfl⟩
 ·have hj2 : j = s.length := by
   have : ¬ ((j : Nat) : Int) < ((cUs s).length : Nat) := of_decide_eq_false h3
   omega
  subst hj2
  rw [List.take_length]
  repeat (first | refine za6 ?_ | refine za3 ?_ | refine za4 ?_ | refine zbt rfl ?_ | refine zbc ?_ | refine zaf ?_)
  refine ze6 ?_
  repeat (first | refine za6 ?_ | refine za0 rfl ?_ | refine za3 ?_ | refine za4 ?_ | refine zas ?_ | refine zbb ?_ | refine za1 rfl ?_)
  refine zal ⟨.inr rfl, _, rfl, ⟨0, 0, 1, some N, zgl N s, [], ?_, rfl, ?_, fun x hx => ?_, ?_⟩⟩
  ·rw [List.length_map, List.length_range]
  ·have : zgl N s = ((List.range N).map fun k => zcf s k).map cU := by unfold zgl; rw [List.map_map]; rfl
   rw [this]
   exact zq1 _
  ·obtain ⟨k, _, rfl⟩ := List.mem_map.1 hx
   rfl
  ·rw [List.append_nil]
   unfold zgl
   induction List.range N with
   | nil => rfl
   | cons k l ih => simpa using ih
end Go.Proofs.Ytknomkcdpcnmaaa
