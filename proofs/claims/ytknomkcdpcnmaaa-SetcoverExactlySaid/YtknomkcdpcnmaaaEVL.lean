/-
  THE NUMBER OF ELEMENTS OF A SET; SORTING SHORT LISTS.
-/
import Derived.Test.YtknomkcdpcnmaaaEVC
import Derived.Test.YtknomkcdpcnmaaaEV4
namespace Go.Proofs.Ytknomkcdpcnmaaa
open Go Go.Am
-- math/bits.OnesCount64
def ic26 : IC := .seq (.region [⟨(some 2), .mov (.c (.int .i64 0)), none⟩] none)
 (.seq (.region [⟨(some 3), .mov (.t 0), none⟩,
  ⟨(some 4), .bin .shr (.t 3) (.c (.int .u64 1)), none⟩,
  ⟨(some 5), .bin .and (.t 4) (.c (.int .u64 6148914691236517205)), none⟩,
  ⟨(some 6), .mov (.t 0), none⟩,
  ⟨(some 7), .bin .and (.t 6) (.c (.int .u64 6148914691236517205)), none⟩,
  ⟨(some 8), .bin .add (.t 5) (.t 7), none⟩,
  ⟨(some 0), .mov (.t 8), none⟩] none)
 (.seq (.region [⟨(some 9), .mov (.t 0), none⟩,
  ⟨(some 10), .bin .shr (.t 9) (.c (.int .u64 2)), none⟩,
  ⟨(some 11), .bin .and (.t 10) (.c (.int .u64 3689348814741910323)), none⟩,
  ⟨(some 12), .mov (.t 0), none⟩,
  ⟨(some 13), .bin .and (.t 12) (.c (.int .u64 3689348814741910323)), none⟩,
  ⟨(some 14), .bin .add (.t 11) (.t 13), none⟩,
  ⟨(some 0), .mov (.t 14), none⟩] none)
 (.seq (.region [⟨(some 15), .mov (.t 0), none⟩,
  ⟨(some 16), .bin .shr (.t 15) (.c (.int .u64 4)), none⟩,
  ⟨(some 17), .mov (.t 0), none⟩,
  ⟨(some 18), .bin .add (.t 16) (.t 17), none⟩,
  ⟨(some 19), .bin .and (.t 18) (.c (.int .u64 1085102592571150095)), none⟩,
  ⟨(some 0), .mov (.t 19), none⟩] none)
 (.seq (.region [⟨(some 20), .mov (.t 0), none⟩,
  ⟨(some 21), .mov (.t 0), none⟩,
  ⟨(some 22), .bin .shr (.t 21) (.c (.int .u64 8)), none⟩,
  ⟨(some 23), .bin .add (.t 20) (.t 22), none⟩,
  ⟨(some 0), .mov (.t 23), none⟩] none)
 (.seq (.region [⟨(some 24), .mov (.t 0), none⟩,
  ⟨(some 25), .mov (.t 0), none⟩,
  ⟨(some 26), .bin .shr (.t 25) (.c (.int .u64 16)), none⟩,
  ⟨(some 27), .bin .add (.t 24) (.t 26), none⟩,
  ⟨(some 0), .mov (.t 27), none⟩] none)
 (.seq (.region [⟨(some 28), .mov (.t 0), none⟩,
  ⟨(some 29), .mov (.t 0), none⟩,
  ⟨(some 30), .bin .shr (.t 29) (.c (.int .u64 32)), none⟩,
  ⟨(some 31), .bin .add (.t 28) (.t 30), none⟩,
  ⟨(some 0), .mov (.t 31), none⟩] none)
 (.seq (.region [⟨(some 32), .mov (.t 0), none⟩,
  ⟨(some 33), .conv .i64 (.t 32), none⟩,
  ⟨(some 34), .bin .and (.t 33) (.c (.int .i64 127)), none⟩,
  ⟨(some 2), .mov (.t 34), none⟩] none)
 (.ret))))))))
theorem fn26 : env0.fn 26 = some ⟨35, ic26, [.t 2]⟩ := by kernel_rfl
-- cmp.Less[int]
def ic76 : IC := .seq (.region [⟨(some 4), .mov (.c (.bool false)), none⟩] none)
 (.seq (.region [⟨(some 5), .mov (.t 0), none⟩,
  ⟨(some 6), .call (.c (.fn 69 [] [])) [(.t 5)], none⟩,
  ⟨(some 7), .mov (.t 6), none⟩,
  ⟨(some 8), .mov (.t 1), some (7, true)⟩,
  ⟨(some 9), .call (.c (.fn 69 [] [])) [(.t 8)], some (7, true)⟩,
  ⟨(some 10), .un .not (.t 9), some (7, true)⟩,
  ⟨(some 11), .pick (.t 7) (.t 10) (.c (.bool false)), none⟩,
  ⟨(some 12), .mov (.t 11), none⟩,
  ⟨(some 13), .mov (.t 0), some (12, false)⟩,
  ⟨(some 14), .mov (.t 1), some (12, false)⟩,
  ⟨(some 15), .bin .lss (.t 13) (.t 14), some (12, false)⟩,
  ⟨(some 16), .pick (.t 12) (.c (.bool true)) (.t 15), none⟩,
  ⟨(some 4), .mov (.t 16), none⟩] none)
 (.ret))
theorem fn76 : env0.fn 76 = some ⟨17, ic76, [.t 4]⟩ := by kernel_rfl
def b70_2 : IC := .seq (.seq (.region [⟨(some 16), .mov (.t 7), none⟩,
  ⟨(some 17), .mov (.t 1), none⟩,
  ⟨(some 18), .bin .gtr (.t 16) (.t 17), none⟩,
  ⟨(some 19), .mov (.t 18), none⟩,
  ⟨(some 20), .mov (.t 0), some (19, true)⟩,
  ⟨(some 21), .mov (.t 7), some (19, true)⟩,
  ⟨(some 22), .idxs 1 (.t 20) (.t 21), some (19, true)⟩,
  ⟨(some 23), .load none (.t 22), some (19, true)⟩,
  ⟨(some 24), .mov (.t 0), some (19, true)⟩,
  ⟨(some 25), .mov (.t 7), some (19, true)⟩,
  ⟨(some 26), .bin .sub (.t 25) (.c (.int .i64 1)), some (19, true)⟩,
  ⟨(some 27), .idxs 1 (.t 24) (.t 26), some (19, true)⟩,
  ⟨(some 28), .load none (.t 27), some (19, true)⟩,
  ⟨(some 29), .call (.c (.fn 76 [] [])) [(.t 23), (.t 28)], some (19, true)⟩,
  ⟨(some 30), .pick (.t 19) (.t 29) (.c (.bool false)), none⟩] (some [[], [], [0, 1], [2], [3], [3], [4, 5, 3], [6, 3], [3], [3], [9, 3], [8, 10, 3], [11, 3], [7, 12, 3, 3], [3, 13]]))
 (.cond (.t 30) (.skip)
 (.exit 2)))
 (.seq (.block 3 (.region [⟨(some 33), .mov (.t 0), none⟩,
  ⟨(some 34), .mov (.t 7), none⟩,
  ⟨(some 35), .mov (.t 0), none⟩,
  ⟨(some 36), .mov (.t 7), none⟩,
  ⟨(some 37), .bin .sub (.t 36) (.c (.int .i64 1)), none⟩,
  ⟨(some 38), .mov (.t 0), none⟩,
  ⟨(some 39), .mov (.t 7), none⟩,
  ⟨(some 40), .bin .sub (.t 39) (.c (.int .i64 1)), none⟩,
  ⟨(some 41), .idxs 1 (.t 38) (.t 40), none⟩,
  ⟨(some 42), .load none (.t 41), none⟩,
  ⟨(some 43), .mov (.t 0), none⟩,
  ⟨(some 44), .mov (.t 7), none⟩,
  ⟨(some 45), .idxs 1 (.t 43) (.t 44), none⟩,
  ⟨(some 46), .load none (.t 45), none⟩,
  ⟨(some 47), .idxs 1 (.t 33) (.t 34), none⟩,
  ⟨none, .store 1 (.t 47) (.t 42), none⟩,
  ⟨(some 48), .idxs 1 (.t 35) (.t 37), none⟩,
  ⟨none, .store 1 (.t 48) (.t 46), none⟩] (some [[], [], [], [], [3], [], [], [6], [5, 7], [8], [], [], [10, 11], [12], [0, 1, 0, 1, 5, 6, 7, 8, 9, 13], [14, 9, 0, 1, 5, 6, 7, 8, 9, 13], [2, 4, 0, 1, 2, 3, 4, 5, 6, 7, 8, 9, 10, 11, 12, 13, 14, 15], [16, 13, 15, 0, 1, 2, 3, 4, 5, 6, 7, 8, 9, 10, 11, 12, 13, 14, 15]])))
 (.region [⟨(some 31), .mov (.t 7), none⟩,
  ⟨(some 32), .bin .sub (.t 31) (.c (.int .i64 1)), none⟩,
  ⟨(some 7), .mov (.t 32), none⟩] none))
def b70_0 : IC := .seq (.seq (.region [⟨(some 10), .mov (.t 6), none⟩,
  ⟨(some 11), .mov (.t 2), none⟩,
  ⟨(some 12), .bin .lss (.t 10) (.t 11), none⟩] none)
 (.cond (.t 12) (.skip)
 (.exit 0)))
 (.seq (.block 1 (.seq (.region [⟨(some 15), .mov (.t 6), none⟩,
  ⟨(some 7), .mov (.t 15), none⟩] none)
 (.block 2 (.loop b70_2))))
 (.region [⟨(some 13), .mov (.t 6), none⟩,
  ⟨(some 14), .bin .add (.t 13) (.c (.int .i64 1)), none⟩,
  ⟨(some 6), .mov (.t 14), none⟩] none))
-- slices.insertionSortOrdered[int]
def ic70 : IC := .seq (.region [⟨(some 8), .mov (.t 1), none⟩,
  ⟨(some 9), .bin .add (.t 8) (.c (.int .i64 1)), none⟩,
  ⟨(some 6), .mov (.t 9), none⟩] none)
 (.block 0 (.loop b70_0))
theorem fn70 : env0.fn 70 = some ⟨49, ic70, []⟩ := by kernel_rfl
theorem zfj (x y : BitVec 64) : Am.binOp .add (cU x) (cU y) = some (cU (x + y)) := by
 show some (AV.int .u64 (IntKind.u64.wrap ((x.toNat : Int) + (y.toNat : Int)))) = some (AV.int .u64 _)
 rw [zpn, BitVec.toNat_ofInt, BitVec.toNat_add]
 congr 2
def szN : Nat → Nat → Nat
 | 0, _ => 0
 | m + 1, x => x % 2 + szN m (x / 2)
@[irreducible] def szB (x : BitVec 64) : Nat := szN 64 x.toNat
def popB (x : BitVec 64) : BitVec 64 :=
 let a := (x >>> 1 &&& 6148914691236517205#64) + (x &&& 6148914691236517205#64)
 let b := (a >>> 2 &&& 3689348814741910323#64) + (a &&& 3689348814741910323#64)
 let c := (b >>> 4 + b) &&& 1085102592571150095#64
 let d := c + c >>> 8
 let e := d + d >>> 16
 e + e >>> 32
def popI (x : BitVec 64) : Option AV := (zju .i64 (cU (popB x))).bind fun v => Am.binOp .and v (.int .i64 127)
def avOk (o : Option AV) (k : Nat) : Bool := match o with
 | some (.int .i64 z) => z == (k : Int)
 | _ => false
theorem avOk_eq {o : Option AV} {k : Nat} (h : avOk o k = true) : o = some (.int .i64 (k : Nat)) := by
 unfold avOk at h
 split at h
 ·rw [eq_of_beq h]
 ·cases h
def popAll (n : Nat) : Bool := (List.range n).all fun k => avOk (popI (BitVec.ofNat 64 k)) (szB (BitVec.ofNat 64 k))
theorem pop_all : popAll 4096 = true := by decide +kernel
theorem pop_ok {x : BitVec 64} (h : x.toNat < 4096) : popI x = some (.int .i64 (szB x : Nat)) := by
 have h1 := List.all_eq_true.1 pop_all x.toNat (List.mem_range.2 h)
 rw [BitVec.ofNat_toNat, BitVec.setWidth_eq] at h1
 exact avOk_eq h1
theorem ones26 {x : BitVec 64} (h : x.toNat < 4096) : PF Try.prog 26 [cU x] (.int .i64 (szB x : Nat)) := by
 have hp := pop_ok h
 refine zbd env0_ok fn26 [(0, cU x)] (by show 1 ≤ 35; decide) rfl fun w0 N0 => ?_
 unfold ic26
 refine za6 (za0 rfl (za1 rfl (za3 (za4 (za6 (za0 rfl (za1 rfl ?_)))))))
 refine zac rfl rfl (zdg x (kd := .u64) (n := 1) (by decide)) ?_
 refine zac rfl rfl (ze1 _ (6148914691236517205#64)) (za1 rfl (zac rfl rfl (ze1 _ (6148914691236517205#64)) ?_))
 refine zac rfl rfl (zfj _ _) (za1 rfl (za3 (za4 (za6 (za0 rfl (za1 rfl ?_))))))
 refine zac rfl rfl (zdg _ (kd := .u64) (n := 2) (by decide)) ?_
 refine zac rfl rfl (ze1 _ (3689348814741910323#64)) (za1 rfl (zac rfl rfl (ze1 _ (3689348814741910323#64)) ?_))
 refine zac rfl rfl (zfj _ _) (za1 rfl (za3 (za4 (za6 (za0 rfl (za1 rfl ?_))))))
 refine zac rfl rfl (zdg _ (kd := .u64) (n := 4) (by decide)) (za1 rfl (zac rfl rfl (zfj _ _) ?_))
 refine zac rfl rfl (ze1 _ (1085102592571150095#64)) (za1 rfl (za3 (za4 (za6 (za0 rfl (za1 rfl (za1 rfl ?_)))))))
 refine zac rfl rfl (zdg _ (kd := .u64) (n := 8) (by decide)) (zac rfl rfl (zfj _ _) (za1 rfl (za3 (za4 (za6 (za0 rfl (za1 rfl (za1 rfl ?_))))))))
 refine zac rfl rfl (zdg _ (kd := .u64) (n := 16) (by decide)) (zac rfl rfl (zfj _ _) (za1 rfl (za3 (za4 (za6 (za0 rfl (za1 rfl (za1 rfl ?_))))))))
 refine zac rfl rfl (zdg _ (kd := .u64) (n := 32) (by decide)) (zac rfl rfl (zfj _ _) (za1 rfl (za3 (za4 (za6 (za0 rfl (za1 rfl ?_)))))))
 unfold popI at hp
 obtain ⟨v, hv, hp⟩ := Option.bind_eq_some_iff.1 hp
 refine zec rfl (show zju .i64 (cU (popB x)) = some v from hv) ?_
 refine zac rfl rfl hp ?_
 repeat (first | refine za3 ?_ | refine za4 ?_ | refine zas ?_ | refine za1 rfl ?_)
 exact zal ⟨.inr rfl, _, rfl, rfl⟩
theorem less76 (a b : Int) : PF Try.prog 76 [.int .i64 a, .int .i64 b] (.bool (decide (a < b))) := by
 have p1 := nan69 a
 have p2 := nan69 b
 refine zbd env0_ok fn76 [(0, .int .i64 a), (1, .int .i64 b)] (by show 2 ≤ 17; decide) rfl fun w0 N0 => ?_
 unfold ic76
 repeat (first | refine za6 ?_ | refine za0 rfl ?_ | refine za3 ?_ | refine za4 ?_ | refine za1 rfl ?_)
 refine zay rfl rfl p1 (fun h => Bool.noConfusion (show false = true from h)) ?_
 repeat (first | refine zcp rfl ?_ | refine zh8 rfl rfl ?_ | refine za1 rfl ?_ | refine zam rfl rfl ?_)
 refine zax rfl rfl rfl (fun h => ?_) fun h => ?_
 all_goals
  rw [h]
  repeat (first | refine za3 ?_ | refine za4 ?_ | refine zas ?_ | refine za1 rfl ?_ | refine zam rfl rfl ?_)
  exact zal ⟨.inr rfl, _, rfl, rfl⟩
def bub : Nat → List Int → List Int
 | 0, l => l
 | j + 1, l => if l.getD (j + 1) 0 < l.getD j 0 then bub j ((l.set (j + 1) (l.getD j 0)).set j (l.getD (j + 1) 0)) else l
theorem zt7 : ∀ (j : Nat) (l : List Int), (bub j l).length = l.length
 | 0, _ => rfl
 | j + 1, l => by
  rw [bub]
  split
  ·rw [zt7 j, List.length_set, List.length_set]
  ·rfl
def insF (l : List Int) : Nat → Nat → List Int
 | _, 0 => l
 | i, m + 1 => insF (bub i l) (i + 1) m
def zp3 (l : List Int) : List Int := insF l 1 (l.length - 1)
theorem zq4 : ∀ (m i : Nat) (l : List Int), (insF l i m).length = l.length
 | 0, _, _ => rfl
 | m + 1, i, l => by rw [insF, zq4 m, zt7]
theorem zln {l : List Int} {j : Nat} (h : j < l.length) : (l.map (AV.int .i64))[j]? = some (.int .i64 (l.getD j 0)) := by
 rw [List.getElem?_map, List.getElem?_eq_getElem h, List.getD_eq_getElem?_getD, List.getElem?_eq_getElem h]
 rfl
end Go.Proofs.Ytknomkcdpcnmaaa
