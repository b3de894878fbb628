/-
  THE REFERENCE's TABLE: the bits of the points, the loop over them.; THE PROGRAM's TABLE: an own list of values, set anew at every point.
-/
import Derived.Test.YtmnkjofaodbokaaKX4
namespace Go.Proofs.Ytmnkjofaodbokaa
open Go Go.Am
def ptB (n k : Nat) : List Bool := (List.range n).map fun i => k.testBit i
theorem zgv (n k : Nat) : (ptB n k).length = n := by simp [ptB]
def tabP : Tab := [(82, (List.range 7).flatMap fun (n : Nat) => (List.range (2 ^ n)).map fun (k : Nat) => ([.int .i64 (n : Int), .int .i64 (k : Int)], vsB (ptB n k)))]
theorem tabP_ok : TabOk Try.prog tabP := TabOk.of_run (env0_ok.tab TabOk.nil (pure := [])) (n := 60) (by kernel_rfl)
theorem point82 {n k : Nat} (hn : n ≤ 6) (hk : k < 2 ^ n) : PF Try.prog 82 [.int .i64 (n : Nat), .int .i64 (k : Nat)] (vsB (ptB n k)) :=
 tabP_ok _ (List.mem_cons_self ..) _ (List.mem_flatMap.2 ⟨n, List.mem_range.2 (by omega), List.mem_map.2 ⟨k, List.mem_range.2 hk, rfl⟩⟩)
def tbB (n : Nat) (x : Ex) : Nat → BitVec 64
 | 0 => 0#64
 | k + 1 => if zc4 (ptB n k) x = true then tbB n x k ||| 1#64 <<< k else tbB n x k
theorem zt2 (n : Nat) (x : Ex) : ∀ k i : Nat, k ≤ i → (tbB n x k).getLsbD i = false
 | 0, i, _ => by simp [tbB]
 | k + 1, i, h => by
  unfold tbB
  split
  ·rw [BitVec.getLsbD_or, zt2 n x k i (by omega), Bool.false_or, BitVec.getLsbD_shiftLeft, BitVec.getLsbD_one]
   simp
   omega
  ·exact zt2 n x k i (by omega)
theorem tb_add (n : Nat) (x : Ex) (k : Nat) : tbB n x k + 1#64 <<< k = tbB n x k ||| 1#64 <<< k := by
 refine BitVec.add_eq_or_of_and_eq_zero _ _ (BitVec.eq_of_getLsbD_eq fun i hi => ?_)
 rw [BitVec.getLsbD_and, BitVec.getLsbD_shiftLeft, BitVec.getLsbD_one, BitVec.getLsbD_zero]
 by_cases h : k ≤ i
 ·rw [zt2 n x k i h, Bool.false_and]
 ·rw [show decide (i < k) = true from decide_eq_true (by omega)]
  simp
theorem bin_addU (x y : BitVec 64) : Am.binOp .add (cU x) (cU y) = some (cU (x + y)) := by
 show some (AV.int .u64 (IntKind.u64.wrap ((x.toNat : Int) + (y.toNat : Int)))) = some (AV.int .u64 _)
 rw [zqr, BitVec.toNat_ofInt, BitVec.toNat_add]
 congr 2
theorem znm {n : Nat} (h : n ≤ 6) : Am.binOp .shl (.int .i64 1) (.int .i64 (n : Nat)) = some (.int .i64 ((2 ^ n : Nat) : Int)) := by
 match n, h with
 | 0, _ => rfl
 | 1, _ => rfl
 | 2, _ => rfl
 | 3, _ => rfl
 | 4, _ => rfl
 | 5, _ => rfl
 | 6, _ => rfl
theorem zoe {n : Nat} (h : n ≤ 6) : 2 ^ n ≤ 64 := Nat.pow_le_pow_right (n := 2) (by decide) h
def tbV (n : Nat) (x : Ex) : AV := .agg [.int .i64 (n : Nat), cU (tbB n x (2 ^ n))]
def b55_0 : IC := .seq (.seq (.region [⟨(some 9), .mov (.t 6), none⟩,
  ⟨(some 10), .mov (.t 1), none⟩,
  ⟨(some 11), .bin .shl (.c (.int .i64 1)) (.t 10), none⟩,
  ⟨(some 12), .bin .lss (.t 9) (.t 11), none⟩] none)
 (.cond (.t 12) (.skip)
 (.exit 0)))
 (.seq (.block 1 (.seq (.region [⟨(some 15), .load (some 3) (.t 2), none⟩,
  ⟨(some 16), .mov (.t 1), none⟩,
  ⟨(some 17), .mov (.t 6), none⟩,
  ⟨(some 18), .call (.c (.fn 82 [] [])) [(.t 16), (.t 17)], none⟩,
  ⟨(some 19), .call (.c (.fn 54 [] [])) [(.t 15), (.t 18)], none⟩] (some [[], [], [], [1, 2], [0, 3, 3]]))
 (.cond (.t 19) (.region [⟨(some 20), .faddr 1 (.t 5), none⟩,
  ⟨(some 21), .load none (.t 20), none⟩,
  ⟨(some 22), .mov (.t 6), none⟩,
  ⟨(some 23), .bin .shl (.c (.int .u64 1)) (.t 22), none⟩,
  ⟨(some 24), .bin .add (.t 21) (.t 23), none⟩,
  ⟨(some 25), .faddr 1 (.t 5), none⟩,
  ⟨none, .store 1 (.t 25) (.t 24), none⟩] (some [[], [0], [], [2], [1, 3], [0, 1, 2, 3, 4], [5, 4, 0, 1, 2, 3, 4]]))
 (.skip))))
 (.region [⟨(some 13), .mov (.t 6), none⟩,
  ⟨(some 14), .bin .add (.t 13) (.c (.int .i64 1)), none⟩,
  ⟨(some 6), .mov (.t 14), none⟩] none))
-- pneumatic/pneumaticref05.Bits
def ic55 : IC := .seq (.region [⟨(some 2), .box (.t 0), none⟩,
  ⟨(some 4), .alloc [.int .i64 0, .int .u64 0], none⟩] none)
 (.seq (.region [⟨(some 7), .mov (.t 1), none⟩,
  ⟨(some 8), .build [.int .i64 0, .int .u64 0] [(0, 1, (.t 7))], none⟩,
  ⟨(some 5), .alloc [.int .i64 0, .int .u64 0], none⟩,
  ⟨none, .store 2 (.t 5) (.t 8), none⟩] none)
 (.seq (.seq (.region [⟨(some 6), .mov (.c (.int .i64 0)), none⟩] none)
 (.block 0 (.loop b55_0)))
 (.seq (.region [⟨(some 26), .load (some 2) (.t 5), none⟩,
  ⟨none, .store 2 (.t 4) (.t 26), none⟩] none)
 (.ret))))
theorem fn55 : env0.fn 55 = some ⟨27, ic55, [.cell 4 (some 2)]⟩ := by kernel_rfl
set_option maxHeartbeats 4000000 in
theorem bits55 (x : Ex) {n : Nat} (hn : n ≤ 6) (hx : nds (n : Nat) x = 0) : PF Try.prog 55 [.agg (cX x), .int .i64 (n : Nat)] (tbV n x) := by
 have hsh := znm hn
 have p54 : ∀ k, PF Try.prog 54 [.agg (cX x), vsB (ptB n k)] (.bool (zc4 (ptB n k) x)) := fun k => zrl (ptB n k) _ x (Nat.le_refl _) (by rw [zgv]; exact hx)
 have p82 : ∀ k, k < 2 ^ n → PF Try.prog 82 [.int .i64 (n : Nat), .int .i64 (k : Nat)] (vsB (ptB n k)) := fun k h => point82 hn h
 have h64 := zoe hn
 unfold tbV
 have hT : ∀ k, tbB n x (k + 1) = if zc4 (ptB n k) x = true then tbB n x k ||| 1#64 <<< k else tbB n x k := fun k => rfl
 have hT0 : tbB n x 0 = 0#64 := rfl
 have hadd := tb_add n x
 generalize tbB n x = T at *
 generalize hhx : (fun k => zc4 (ptB n k) x) = B at *
 have hB : ∀ k, zc4 (ptB n k) x = B k := fun k => by rw [← hhx]
 simp only [hB] at p54 hT
 clear hhx hB
 obtain ⟨op, ix, args⟩ := x
 refine zbx env0_ok fn55 [(0, .agg (cX (.nd op ix args))), (1, .int .i64 (n : Nat))] (by show 2 ≤ 27; decide) rfl fun w0 N0 => ?_
 unfold ic55
 refine zai (za0 rfl (zbd rfl rfl (zau (zab (zac ?_)))))
 repeat (first | refine zai ?_ | refine za0 rfl ?_ | refine zab ?_ | refine zac ?_ | refine zbg ?_ | refine zaj ?_ | refine zat ?_ | refine zbl rfl ?_ | refine zbo rfl ?_ | refine zb5 ?_ | refine zaz ?_ | refine zb4 ?_ | refine za6 ?_ | refine za4 rfl ?_ | refine za2 ?_ | refine za7 ?_ | refine zbs rfl ?_ | refine zbu rfl rfl ?_ | refine zc6 rfl ?_ | refine zad rfl ?_ | refine zam rfl rfl ?_ | refine zar rfl rfl rfl rfl ?_ | refine zak rfl rfl rfl rfl rfl rfl rfl ?_ | refine za5 rfl ?_ | refine zal rfl rfl rfl ?_ | refine za1 rfl rfl rfl ?_ | refine zag rfl rfl rfl rfl ?_ | refine zau ?_ | refine zah rfl rfl ?_ | refine zaa rfl rfl ?_ | refine zc2 rfl rfl ?_ | refine zbh rfl rfl ?_ | refine zb0 rfl rfl ?_ | refine zao rfl rfl ?_ | refine zbd rfl rfl ?_ | refine zaf rfl rfl rfl ?_ | refine zax rfl rfl ?_ | refine zan rfl rfl rfl rfl ?_ | refine za9 rfl rfl rfl rfl ?_ | refine zaq rfl rfl rfl rfl ?_ | refine zb9 rfl rfl ?_ | refine zb6 rfl rfl ?_ | refine zae rfl rfl ?_ | refine zba ?_ | refine zas env0_ok rfl rfl rfl ?_ | refine zav (op := .add) rfl rfl rfl ?_ | refine zav (op := .sub) rfl rfl rfl ?_ | refine zb8 rfl rfl rfl ?_ | refine zb7 rfl rfl rfl ?_ | refine zb2 rfl rfl rfl ?_ | refine zb1 rfl rfl rfl ?_ | refine zb3 rfl rfl (by omega) (by assumption) rfl ?_ | refine za1 rfl rfl (decide_eq_true ⟨by omega, by omega⟩) ?_ | refine zay rfl rfl (by omega) (by omega) ?_ | refine zap rfl rfl rfl ?_ | refine zbc rfl ?_ | refine zbb rfl ?_)
 refine ze6 [(some (1, 1), [.int .i64 0, .int .u64 0]), (some (2, 2), [.int .i64 (n : Nat), cU 0#64])] [(0, 0, cX (.nd op ix args))] [(1, .int .i64 (n : Nat)), (2, .vptr (cX (.nd op ix args))), (4, .mptr 0 0 0), (5, .mptr 1 0 0), (6, .int .i64 0)] rfl (.cons rfl rfl .nil) (.cons rfl (.cons (.same rfl) (.cons (.same rfl) .nil)) (.cons rfl (.cons (.same rfl) (.cons (.same rfl) .nil)) .nil)) (.cons rfl (.same rfl) (.cons rfl (.fptr rfl rfl) (.cons rfl (.mptr rfl) (.cons rfl (.mptr rfl) (.cons rfl (.same rfl) .nil))))) ?_
 refine ze5 (fun mm S => ∃ k, mm = 2 ^ n - k ∧ k ≤ 2 ^ n ∧ S = st 27 [(1, .int .i64 (n : Nat)), (2, .vptr (cX (.nd op ix args))), (4, .mptr 0 0 0), (5, .mptr 1 0 0), (6, .int .i64 (k : Nat))] [(0, 0, .cells [.int .i64 0, .int .u64 0]), (1, 0, .cells [.int .i64 (n : Nat), cU (T k)])] 2 1) (2 ^ n)
  (zbq (.cons rfl (.cons rfl (.cons rfl (.cons rfl (.cons rfl .nil)))))) ⟨0, rfl, Nat.zero_le _, by rw [hT0]; rfl⟩ ?_
 rintro mm S ⟨k, rfl, hk, rfl⟩
 unfold b55_0
 repeat (first | refine zai ?_ | refine za0 rfl ?_ | refine zab ?_ | refine zac ?_ | refine zbg ?_ | refine zaj ?_ | refine zat ?_ | refine zbl rfl ?_ | refine zbo rfl ?_ | refine zb5 ?_ | refine zaz ?_ | refine zb4 ?_ | refine za6 ?_ | refine za4 rfl ?_ | refine za2 ?_ | refine za7 ?_ | refine zbs rfl ?_ | refine zbu rfl rfl ?_ | refine zc6 rfl ?_ | refine zad rfl ?_ | refine zam rfl rfl ?_ | refine zar rfl rfl rfl rfl ?_ | refine zak rfl rfl rfl rfl rfl rfl rfl ?_ | refine za5 rfl ?_ | refine zal rfl rfl rfl ?_ | refine za1 rfl rfl rfl ?_ | refine zag rfl rfl rfl rfl ?_ | refine zau ?_ | refine zah rfl rfl ?_ | refine zaa rfl rfl ?_ | refine zc2 rfl rfl ?_ | refine zbh rfl rfl ?_ | refine zb0 rfl rfl ?_ | refine zao rfl rfl ?_ | refine zbd rfl rfl ?_ | refine zaf rfl rfl rfl ?_ | refine zax rfl rfl ?_ | refine zan rfl rfl rfl rfl ?_ | refine za9 rfl rfl rfl rfl ?_ | refine zaq rfl rfl rfl rfl ?_ | refine zb9 rfl rfl ?_ | refine zb6 rfl rfl ?_ | refine zae rfl rfl ?_ | refine zba ?_ | refine zas env0_ok rfl rfl rfl ?_ | refine zav (op := .add) rfl rfl rfl ?_ | refine zav (op := .sub) rfl rfl rfl ?_ | refine zb8 rfl rfl rfl ?_ | refine zb7 rfl rfl rfl ?_ | refine zb2 rfl rfl rfl ?_ | refine zb1 rfl rfl rfl ?_ | refine zb3 rfl rfl (by omega) (by assumption) rfl ?_ | refine za1 rfl rfl (decide_eq_true ⟨by omega, by omega⟩) ?_ | refine zay rfl rfl (by omega) (by omega) ?_ | refine zap rfl rfl rfl ?_ | refine zbc rfl ?_ | refine zbb rfl ?_)
 refine zav rfl rfl hsh ?_
 repeat (first | refine zai ?_ | refine za0 rfl ?_ | refine zab ?_ | refine zac ?_ | refine zbg ?_ | refine zaj ?_ | refine zat ?_ | refine zbl rfl ?_ | refine zbo rfl ?_ | refine zb5 ?_ | refine zaz ?_ | refine zb4 ?_ | refine za6 ?_ | refine za4 rfl ?_ | refine za2 ?_ | refine za7 ?_ | refine zbs rfl ?_ | refine zbu rfl rfl ?_ | refine zc6 rfl ?_ | refine zad rfl ?_ | refine zam rfl rfl ?_ | refine zar rfl rfl rfl rfl ?_ | refine zak rfl rfl rfl rfl rfl rfl rfl ?_ | refine za5 rfl ?_ | refine zal rfl rfl rfl ?_ | refine za1 rfl rfl rfl ?_ | refine zag rfl rfl rfl rfl ?_ | refine zau ?_ | refine zah rfl rfl ?_ | refine zaa rfl rfl ?_ | refine zc2 rfl rfl ?_ | refine zbh rfl rfl ?_ | refine zb0 rfl rfl ?_ | refine zao rfl rfl ?_ | refine zbd rfl rfl ?_ | refine zaf rfl rfl rfl ?_ | refine zax rfl rfl ?_ | refine zan rfl rfl rfl rfl ?_ | refine za9 rfl rfl rfl rfl ?_ | refine zaq rfl rfl rfl rfl ?_ | refine zb9 rfl rfl ?_ | refine zb6 rfl rfl ?_ | refine zae rfl rfl ?_ | refine zba ?_ | refine zas env0_ok rfl rfl rfl ?_ | refine zav (op := .add) rfl rfl rfl ?_ | refine zav (op := .sub) rfl rfl rfl ?_ | refine zb8 rfl rfl rfl ?_ | refine zb7 rfl rfl rfl ?_ | refine zb2 rfl rfl rfl ?_ | refine zb1 rfl rfl rfl ?_ | refine zb3 rfl rfl (by omega) (by assumption) rfl ?_ | refine za1 rfl rfl (decide_eq_true ⟨by omega, by omega⟩) ?_ | refine zay rfl rfl (by omega) (by omega) ?_ | refine zap rfl rfl rfl ?_ | refine zbc rfl ?_ | refine zbb rfl ?_)
 refine zbm rfl rfl rfl (fun h4 => ?_) fun h4 => ?_
 ·have hlt : k < 2 ^ n := by
   have h4 : ((k : Nat) : Int) < ((2 ^ n : Nat) : Int) := of_decide_eq_true h4
   omega
  have p82 := p82 k hlt
  have p54 := p54 k
  have hTk := hT k
  have hadd := hadd k
  generalize ptB n k = pt at *
  generalize B k = bk at *
  repeat (first | refine zai ?_ | refine za0 rfl ?_ | refine zab ?_ | refine zac ?_ | refine zbg ?_ | refine zaj ?_ | refine zat ?_ | refine zbl rfl ?_ | refine zbo rfl ?_ | refine zb5 ?_ | refine zaz ?_ | refine zb4 ?_ | refine za6 ?_ | refine za4 rfl ?_ | refine za2 ?_ | refine za7 ?_ | refine zbs rfl ?_ | refine zbu rfl rfl ?_ | refine zc6 rfl ?_ | refine zad rfl ?_ | refine zam rfl rfl ?_ | refine zar rfl rfl rfl rfl ?_ | refine zak rfl rfl rfl rfl rfl rfl rfl ?_ | refine za5 rfl ?_ | refine zal rfl rfl rfl ?_ | refine za1 rfl rfl rfl ?_ | refine zag rfl rfl rfl rfl ?_ | refine zau ?_ | refine zah rfl rfl ?_ | refine zaa rfl rfl ?_ | refine zc2 rfl rfl ?_ | refine zbh rfl rfl ?_ | refine zb0 rfl rfl ?_ | refine zao rfl rfl ?_ | refine zbd rfl rfl ?_ | refine zaf rfl rfl rfl ?_ | refine zax rfl rfl ?_ | refine zan rfl rfl rfl rfl ?_ | refine za9 rfl rfl rfl rfl ?_ | refine zaq rfl rfl rfl rfl ?_ | refine zb9 rfl rfl ?_ | refine zb6 rfl rfl ?_ | refine zae rfl rfl ?_ | refine zba ?_ | refine zav (op := .add) rfl rfl rfl ?_ | refine zav (op := .sub) rfl rfl rfl ?_ | refine zb8 rfl rfl rfl ?_ | refine zb7 rfl rfl rfl ?_ | refine zb2 rfl rfl rfl ?_ | refine zb1 rfl rfl rfl ?_ | refine zb3 rfl rfl (by omega) (by assumption) rfl ?_ | refine za1 rfl rfl (decide_eq_true ⟨by omega, by omega⟩) ?_ | refine zay rfl rfl (by omega) (by omega) ?_ | refine zap rfl rfl rfl ?_ | refine zbc rfl ?_ | refine zbb rfl ?_)
  refine zf5 env0_ok [(82, [.int .i64 (n : Nat), .int .i64 (k : Nat)], vsB pt), (54, [.agg (cX (.nd op ix args)), vsB pt], .bool bk)] (fun x hx => by
   rcases List.mem_cons.1 hx with rfl | hx
   ·exact p82
   obtain rfl := List.mem_singleton.1 hx
   exact p54) (fun f => Nat.beq f 82 || Nat.beq f 54) rfl rfl rfl ?_
  repeat (first | refine zai ?_ | refine za0 rfl ?_ | refine zab ?_ | refine zac ?_ | refine zbg ?_ | refine zaj ?_ | refine zat ?_ | refine zbl rfl ?_ | refine zbo rfl ?_ | refine zb5 ?_ | refine zaz ?_ | refine zb4 ?_ | refine za6 ?_ | refine za4 rfl ?_ | refine za2 ?_ | refine za7 ?_ | refine zbs rfl ?_ | refine zbu rfl rfl ?_ | refine zc6 rfl ?_ | refine zad rfl ?_ | refine zam rfl rfl ?_ | refine zar rfl rfl rfl rfl ?_ | refine zak rfl rfl rfl rfl rfl rfl rfl ?_ | refine za5 rfl ?_ | refine zal rfl rfl rfl ?_ | refine za1 rfl rfl rfl ?_ | refine zag rfl rfl rfl rfl ?_ | refine zau ?_ | refine zah rfl rfl ?_ | refine zaa rfl rfl ?_ | refine zc2 rfl rfl ?_ | refine zbh rfl rfl ?_ | refine zb0 rfl rfl ?_ | refine zao rfl rfl ?_ | refine zbd rfl rfl ?_ | refine zaf rfl rfl rfl ?_ | refine zax rfl rfl ?_ | refine zan rfl rfl rfl rfl ?_ | refine za9 rfl rfl rfl rfl ?_ | refine zaq rfl rfl rfl rfl ?_ | refine zb9 rfl rfl ?_ | refine zb6 rfl rfl ?_ | refine zae rfl rfl ?_ | refine zba ?_ | refine zas env0_ok rfl rfl rfl ?_ | refine zav (op := .add) rfl rfl rfl ?_ | refine zav (op := .sub) rfl rfl rfl ?_ | refine zb8 rfl rfl rfl ?_ | refine zb7 rfl rfl rfl ?_ | refine zb2 rfl rfl rfl ?_ | refine zb1 rfl rfl rfl ?_ | refine zb3 rfl rfl (by omega) (by assumption) rfl ?_ | refine za1 rfl rfl (decide_eq_true ⟨by omega, by omega⟩) ?_ | refine zay rfl rfl (by omega) (by omega) ?_ | refine zap rfl rfl rfl ?_ | refine zbc rfl ?_ | refine zbb rfl ?_)
  refine zbn rfl rfl zcc (fun h => Bool.noConfusion (show false = true from h)) ?_
  repeat (first | refine zai ?_ | refine za0 rfl ?_ | refine zab ?_ | refine zac ?_ | refine zbg ?_ | refine zaj ?_ | refine zat ?_ | refine zbl rfl ?_ | refine zbo rfl ?_ | refine zb5 ?_ | refine zaz ?_ | refine zb4 ?_ | refine za6 ?_ | refine za4 rfl ?_ | refine za2 ?_ | refine za7 ?_ | refine zbs rfl ?_ | refine zbu rfl rfl ?_ | refine zc6 rfl ?_ | refine zad rfl ?_ | refine zam rfl rfl ?_ | refine zar rfl rfl rfl rfl ?_ | refine zak rfl rfl rfl rfl rfl rfl rfl ?_ | refine za5 rfl ?_ | refine zal rfl rfl rfl ?_ | refine za1 rfl rfl rfl ?_ | refine zag rfl rfl rfl rfl ?_ | refine zau ?_ | refine zah rfl rfl ?_ | refine zaa rfl rfl ?_ | refine zc2 rfl rfl ?_ | refine zbh rfl rfl ?_ | refine zb0 rfl rfl ?_ | refine zao rfl rfl ?_ | refine zbd rfl rfl ?_ | refine zaf rfl rfl rfl ?_ | refine zax rfl rfl ?_ | refine zan rfl rfl rfl rfl ?_ | refine za9 rfl rfl rfl rfl ?_ | refine zaq rfl rfl rfl rfl ?_ | refine zb9 rfl rfl ?_ | refine zb6 rfl rfl ?_ | refine zae rfl rfl ?_ | refine zba ?_ | refine zas env0_ok rfl rfl rfl ?_ | refine zav (op := .add) rfl rfl rfl ?_ | refine zav (op := .sub) rfl rfl rfl ?_ | refine zb8 rfl rfl rfl ?_ | refine zb7 rfl rfl rfl ?_ | refine zb2 rfl rfl rfl ?_ | refine zb1 rfl rfl rfl ?_ | refine zb3 rfl rfl (by omega) (by assumption) rfl ?_ | refine za1 rfl rfl (decide_eq_true ⟨by omega, by omega⟩) ?_ | refine zay rfl rfl (by omega) (by omega) ?_ | refine zap rfl rfl rfl ?_ | refine zbc rfl ?_ | refine zbb rfl ?_)
  refine zbn rfl rfl (zen (by decide) zcc) (fun h => Bool.noConfusion (show false = true from h)) ?_
  repeat (first | refine zai ?_ | refine za0 rfl ?_ | refine zab ?_ | refine zac ?_ | refine zbg ?_ | refine zaj ?_ | refine zat ?_ | refine zbl rfl ?_ | refine zbo rfl ?_ | refine zb5 ?_ | refine zaz ?_ | refine zb4 ?_ | refine za6 ?_ | refine za4 rfl ?_ | refine za2 ?_ | refine za7 ?_ | refine zbs rfl ?_ | refine zbu rfl rfl ?_ | refine zc6 rfl ?_ | refine zad rfl ?_ | refine zam rfl rfl ?_ | refine zar rfl rfl rfl rfl ?_ | refine zak rfl rfl rfl rfl rfl rfl rfl ?_ | refine za5 rfl ?_ | refine zal rfl rfl rfl ?_ | refine za1 rfl rfl rfl ?_ | refine zag rfl rfl rfl rfl ?_ | refine zau ?_ | refine zah rfl rfl ?_ | refine zaa rfl rfl ?_ | refine zc2 rfl rfl ?_ | refine zbh rfl rfl ?_ | refine zb0 rfl rfl ?_ | refine zao rfl rfl ?_ | refine zbd rfl rfl ?_ | refine zaf rfl rfl rfl ?_ | refine zax rfl rfl ?_ | refine zan rfl rfl rfl rfl ?_ | refine za9 rfl rfl rfl rfl ?_ | refine zaq rfl rfl rfl rfl ?_ | refine zb9 rfl rfl ?_ | refine zb6 rfl rfl ?_ | refine zae rfl rfl ?_ | refine zba ?_ | refine zas env0_ok rfl rfl rfl ?_ | refine zav (op := .add) rfl rfl rfl ?_ | refine zav (op := .sub) rfl rfl rfl ?_ | refine zb8 rfl rfl rfl ?_ | refine zb7 rfl rfl rfl ?_ | refine zb2 rfl rfl rfl ?_ | refine zb1 rfl rfl rfl ?_ | refine zb3 rfl rfl (by omega) (by assumption) rfl ?_ | refine za1 rfl rfl (decide_eq_true ⟨by omega, by omega⟩) ?_ | refine zay rfl rfl (by omega) (by omega) ?_ | refine zap rfl rfl rfl ?_ | refine zbc rfl ?_ | refine zbb rfl ?_)
  cases bk with
  | false =>
   rw [if_neg Bool.false_ne_true] at hTk
   repeat (first | refine zai ?_ | refine za0 rfl ?_ | refine zab ?_ | refine zac ?_ | refine zbg ?_ | refine zaj ?_ | refine zat ?_ | refine zbl rfl ?_ | refine zbo rfl ?_ | refine zb5 ?_ | refine zaz ?_ | refine zb4 ?_ | refine za6 ?_ | refine za4 rfl ?_ | refine za2 ?_ | refine za7 ?_ | refine zbs rfl ?_ | refine zbu rfl rfl ?_ | refine zc6 rfl ?_ | refine zad rfl ?_ | refine zam rfl rfl ?_ | refine zar rfl rfl rfl rfl ?_ | refine zak rfl rfl rfl rfl rfl rfl rfl ?_ | refine za5 rfl ?_ | refine zal rfl rfl rfl ?_ | refine za1 rfl rfl rfl ?_ | refine zag rfl rfl rfl rfl ?_ | refine zau ?_ | refine zah rfl rfl ?_ | refine zaa rfl rfl ?_ | refine zc2 rfl rfl ?_ | refine zbh rfl rfl ?_ | refine zb0 rfl rfl ?_ | refine zao rfl rfl ?_ | refine zbd rfl rfl ?_ | refine zaf rfl rfl rfl ?_ | refine zax rfl rfl ?_ | refine zan rfl rfl rfl rfl ?_ | refine za9 rfl rfl rfl rfl ?_ | refine zaq rfl rfl rfl rfl ?_ | refine zb9 rfl rfl ?_ | refine zb6 rfl rfl ?_ | refine zae rfl rfl ?_ | refine zba ?_ | refine zas env0_ok rfl rfl rfl ?_ | refine zav (op := .add) rfl rfl rfl ?_ | refine zav (op := .sub) rfl rfl rfl ?_ | refine zb8 rfl rfl rfl ?_ | refine zb7 rfl rfl rfl ?_ | refine zb2 rfl rfl rfl ?_ | refine zb1 rfl rfl rfl ?_ | refine zb3 rfl rfl (by omega) (by assumption) rfl ?_ | refine za1 rfl rfl (decide_eq_true ⟨by omega, by omega⟩) ?_ | refine zay rfl rfl (by omega) (by omega) ?_ | refine zap rfl rfl rfl ?_ | refine zbc rfl ?_ | refine zbb rfl ?_)
   rw [zc8 k (by omega)]
   exact zcs (show 2 ^ n - (k + 1) < 2 ^ n - k by omega) (zbq (.cons rfl (.cons rfl (.cons rfl (.cons rfl (.cons rfl .nil)))))) ⟨k + 1, rfl, hlt, by rw [hTk]⟩
  | true =>
   rw [if_pos rfl] at hTk
   repeat (first | refine zai ?_ | refine za0 rfl ?_ | refine zab ?_ | refine zac ?_ | refine zbg ?_ | refine zaj ?_ | refine zat ?_ | refine zbl rfl ?_ | refine zbo rfl ?_ | refine zb5 ?_ | refine zaz ?_ | refine zb4 ?_ | refine za6 ?_ | refine za4 rfl ?_ | refine za2 ?_ | refine za7 ?_ | refine zbs rfl ?_ | refine zbu rfl rfl ?_ | refine zc6 rfl ?_ | refine zad rfl ?_ | refine zam rfl rfl ?_ | refine zar rfl rfl rfl rfl ?_ | refine zak rfl rfl rfl rfl rfl rfl rfl ?_ | refine za5 rfl ?_ | refine zal rfl rfl rfl ?_ | refine za1 rfl rfl rfl ?_ | refine zag rfl rfl rfl rfl ?_ | refine zau ?_ | refine zah rfl rfl ?_ | refine zaa rfl rfl ?_ | refine zc2 rfl rfl ?_ | refine zbh rfl rfl ?_ | refine zb0 rfl rfl ?_ | refine zao rfl rfl ?_ | refine zbd rfl rfl ?_ | refine zaf rfl rfl rfl ?_ | refine zax rfl rfl ?_ | refine zan rfl rfl rfl rfl ?_ | refine za9 rfl rfl rfl rfl ?_ | refine zaq rfl rfl rfl rfl ?_ | refine zb9 rfl rfl ?_ | refine zb6 rfl rfl ?_ | refine zae rfl rfl ?_ | refine zba ?_ | refine zas env0_ok rfl rfl rfl ?_ | refine zav (op := .add) rfl rfl rfl ?_ | refine zav (op := .sub) rfl rfl rfl ?_ | refine zb8 rfl rfl rfl ?_ | refine zb7 rfl rfl rfl ?_ | refine zb2 rfl rfl rfl ?_ | refine zb1 rfl rfl rfl ?_ | refine zb3 rfl rfl (by omega) (by assumption) rfl ?_ | refine za1 rfl rfl (decide_eq_true ⟨by omega, by omega⟩) ?_ | refine zay rfl rfl (by omega) (by omega) ?_ | refine zap rfl rfl rfl ?_ | refine zbc rfl ?_ | refine zbb rfl ?_)
   refine zav rfl rfl (znn 1#64 (n := k) (by omega)) ?_
   refine zav rfl rfl (bin_addU _ _) ?_
   rw [hadd, ← hTk]
   repeat (first | refine zai ?_ | refine za0 rfl ?_ | refine zab ?_ | refine zac ?_ | refine zbg ?_ | refine zaj ?_ | refine zat ?_ | refine zbl rfl ?_ | refine zbo rfl ?_ | refine zb5 ?_ | refine zaz ?_ | refine zb4 ?_ | refine za6 ?_ | refine za4 rfl ?_ | refine za2 ?_ | refine za7 ?_ | refine zbs rfl ?_ | refine zbu rfl rfl ?_ | refine zc6 rfl ?_ | refine zad rfl ?_ | refine zam rfl rfl ?_ | refine zar rfl rfl rfl rfl ?_ | refine zak rfl rfl rfl rfl rfl rfl rfl ?_ | refine za5 rfl ?_ | refine zal rfl rfl rfl ?_ | refine za1 rfl rfl rfl ?_ | refine zag rfl rfl rfl rfl ?_ | refine zau ?_ | refine zah rfl rfl ?_ | refine zaa rfl rfl ?_ | refine zc2 rfl rfl ?_ | refine zbh rfl rfl ?_ | refine zb0 rfl rfl ?_ | refine zao rfl rfl ?_ | refine zbd rfl rfl ?_ | refine zaf rfl rfl rfl ?_ | refine zax rfl rfl ?_ | refine zan rfl rfl rfl rfl ?_ | refine za9 rfl rfl rfl rfl ?_ | refine zaq rfl rfl rfl rfl ?_ | refine zb9 rfl rfl ?_ | refine zb6 rfl rfl ?_ | refine zae rfl rfl ?_ | refine zba ?_ | refine zas env0_ok rfl rfl rfl ?_ | refine zav (op := .add) rfl rfl rfl ?_ | refine zav (op := .sub) rfl rfl rfl ?_ | refine zb8 rfl rfl rfl ?_ | refine zb7 rfl rfl rfl ?_ | refine zb2 rfl rfl rfl ?_ | refine zb1 rfl rfl rfl ?_ | refine zb3 rfl rfl (by omega) (by assumption) rfl ?_ | refine za1 rfl rfl (decide_eq_true ⟨by omega, by omega⟩) ?_ | refine zay rfl rfl (by omega) (by omega) ?_ | refine zap rfl rfl rfl ?_ | refine zbc rfl ?_ | refine zbb rfl ?_)
   rw [zc8 k (by omega)]
   exact zcs (show 2 ^ n - (k + 1) < 2 ^ n - k by omega) (zbq (.cons rfl (.cons rfl (.cons rfl (.cons rfl (.cons rfl .nil)))))) ⟨k + 1, rfl, hlt, rfl⟩
 ·have hi2 : k = 2 ^ n := by
   have h4 : ¬ ((k : Nat) : Int) < ((2 ^ n : Nat) : Int) := of_decide_eq_false h4
   omega
  subst hi2
  repeat (first | refine zai ?_ | refine za0 rfl ?_ | refine zab ?_ | refine zac ?_ | refine zbg ?_ | refine zaj ?_ | refine zat ?_ | refine zbl rfl ?_ | refine zbo rfl ?_ | refine zb5 ?_ | refine zaz ?_ | refine zb4 ?_ | refine za6 ?_ | refine za4 rfl ?_ | refine za2 ?_ | refine za7 ?_ | refine zbs rfl ?_ | refine zbu rfl rfl ?_ | refine zc6 rfl ?_ | refine zad rfl ?_ | refine zam rfl rfl ?_ | refine zar rfl rfl rfl rfl ?_ | refine zak rfl rfl rfl rfl rfl rfl rfl ?_ | refine za5 rfl ?_ | refine zal rfl rfl rfl ?_ | refine za1 rfl rfl rfl ?_ | refine zag rfl rfl rfl rfl ?_ | refine zau ?_ | refine zah rfl rfl ?_ | refine zaa rfl rfl ?_ | refine zc2 rfl rfl ?_ | refine zbh rfl rfl ?_ | refine zb0 rfl rfl ?_ | refine zao rfl rfl ?_ | refine zbd rfl rfl ?_ | refine zaf rfl rfl rfl ?_ | refine zax rfl rfl ?_ | refine zan rfl rfl rfl rfl ?_ | refine za9 rfl rfl rfl rfl ?_ | refine zaq rfl rfl rfl rfl ?_ | refine zb9 rfl rfl ?_ | refine zb6 rfl rfl ?_ | refine zae rfl rfl ?_ | refine zba ?_ | refine zas env0_ok rfl rfl rfl ?_ | refine zav (op := .add) rfl rfl rfl ?_ | refine zav (op := .sub) rfl rfl rfl ?_ | refine zb8 rfl rfl rfl ?_ | refine zb7 rfl rfl rfl ?_ | refine zb2 rfl rfl rfl ?_ | refine zb1 rfl rfl rfl ?_ | refine zb3 rfl rfl (by omega) (by assumption) rfl ?_ | refine za1 rfl rfl (decide_eq_true ⟨by omega, by omega⟩) ?_ | refine zay rfl rfl (by omega) (by omega) ?_ | refine zap rfl rfl rfl ?_ | refine zbc rfl ?_ | refine zbb rfl ?_)
  refine zfs ?_
  repeat (first | refine zai ?_ | refine za0 rfl ?_ | refine zab ?_ | refine zac ?_ | refine zbg ?_ | refine zaj ?_ | refine zat ?_ | refine zbl rfl ?_ | refine zbo rfl ?_ | refine zb5 ?_ | refine zaz ?_ | refine zb4 ?_ | refine za6 ?_ | refine za4 rfl ?_ | refine za2 ?_ | refine za7 ?_ | refine zbs rfl ?_ | refine zbu rfl rfl ?_ | refine zc6 rfl ?_ | refine zad rfl ?_ | refine zam rfl rfl ?_ | refine zar rfl rfl rfl rfl ?_ | refine zak rfl rfl rfl rfl rfl rfl rfl ?_ | refine za5 rfl ?_ | refine zal rfl rfl rfl ?_ | refine za1 rfl rfl rfl ?_ | refine zag rfl rfl rfl rfl ?_ | refine zau ?_ | refine zah rfl rfl ?_ | refine zaa rfl rfl ?_ | refine zc2 rfl rfl ?_ | refine zbh rfl rfl ?_ | refine zb0 rfl rfl ?_ | refine zao rfl rfl ?_ | refine zbd rfl rfl ?_ | refine zaf rfl rfl rfl ?_ | refine zax rfl rfl ?_ | refine zan rfl rfl rfl rfl ?_ | refine za9 rfl rfl rfl rfl ?_ | refine zaq rfl rfl rfl rfl ?_ | refine zb9 rfl rfl ?_ | refine zb6 rfl rfl ?_ | refine zae rfl rfl ?_ | refine zba ?_ | refine zas env0_ok rfl rfl rfl ?_ | refine zav (op := .add) rfl rfl rfl ?_ | refine zav (op := .sub) rfl rfl rfl ?_ | refine zb8 rfl rfl rfl ?_ | refine zb7 rfl rfl rfl ?_ | refine zb2 rfl rfl rfl ?_ | refine zb1 rfl rfl rfl ?_ | refine zb3 rfl rfl (by omega) (by assumption) rfl ?_ | refine za1 rfl rfl (decide_eq_true ⟨by omega, by omega⟩) ?_ | refine zay rfl rfl (by omega) (by omega) ?_ | refine zap rfl rfl rfl ?_ | refine zbc rfl ?_ | refine zbb rfl ?_)
  exact zbe ⟨.inr rfl, _, rfl, rfl⟩
def zjo (x : Ex) (n : Nat) : AV := if n > 6 then .tup [.agg [.int .i64 0, .int .u64 0], .int .i64 2] else if zdd x (n : Nat) = 0 then .tup [tbV n x, .int .i64 0] else .tup [.agg [.int .i64 0, .int .u64 0], .int .i64 (zdd x (n : Nat))]
-- pneumatic/pneumaticref05.Table
def ic21 : IC := .seq (.region [⟨(some 2), .box (.t 0), none⟩,
  ⟨(some 4), .alloc [.int .i64 0, .int .u64 0], none⟩,
  ⟨(some 5), .mov (.c (.int .i64 0)), none⟩] none)
 (.seq (.seq (.region [⟨(some 7), .mov (.t 1), none⟩,
  ⟨(some 8), .bin .lss (.t 7) (.c (.int .i64 0)), none⟩,
  ⟨(some 9), .mov (.t 8), none⟩,
  ⟨(some 10), .mov (.t 1), some (9, false)⟩,
  ⟨(some 11), .bin .gtr (.t 10) (.c (.int .i64 6)), some (9, false)⟩,
  ⟨(some 12), .pick (.t 9) (.c (.bool true)) (.t 11), none⟩] none)
 (.cond (.t 12) (.seq (.region [⟨(some 13), .build [.int .i64 0, .int .u64 0] [], none⟩,
  ⟨none, .store 2 (.t 4) (.t 13), none⟩,
  ⟨(some 5), .mov (.c (.int .i64 2)), none⟩] none)
 (.ret))
 (.skip)))
 (.seq (.seq (.region [⟨(some 14), .load (some 3) (.t 2), none⟩,
  ⟨(some 15), .mov (.t 1), none⟩,
  ⟨(some 16), .call (.c (.fn 33 [] [])) [(.t 14), (.t 15)], none⟩,
  ⟨(some 6), .mov (.t 16), none⟩] none)
 (.seq (.region [⟨(some 17), .mov (.t 6), none⟩,
  ⟨(some 18), .bin .neq (.t 17) (.c (.int .i64 0)), none⟩] none)
 (.cond (.t 18) (.seq (.region [⟨(some 19), .build [.int .i64 0, .int .u64 0] [], none⟩,
  ⟨(some 20), .mov (.t 6), none⟩,
  ⟨none, .store 2 (.t 4) (.t 19), none⟩,
  ⟨(some 5), .mov (.t 20), none⟩] none)
 (.ret))
 (.skip))))
 (.seq (.region [⟨(some 21), .load (some 3) (.t 2), none⟩,
  ⟨(some 22), .mov (.t 1), none⟩,
  ⟨(some 23), .call (.c (.fn 55 [] [])) [(.t 21), (.t 22)], none⟩,
  ⟨none, .store 2 (.t 4) (.t 23), none⟩,
  ⟨(some 5), .mov (.c (.int .i64 0)), none⟩] none)
 (.ret))))
theorem fn21 : env0.fn 21 = some ⟨24, ic21, [.cell 4 (some 2), .t 5]⟩ := by kernel_rfl
set_option maxHeartbeats 2000000 in
theorem table21 (x : Ex) (hs : Slim x) (n : Nat) : PF Try.prog 21 [.agg (cX x), .int .i64 (n : Nat)] (zjo x n) := by
 have p33 := zqu x hs (n : Nat)
 have p55 : n ≤ 6 → zdd x (n : Nat) = 0 → PF Try.prog 55 [.agg (cX x), .int .i64 (n : Nat)] (tbV n x) := fun hn h => bits55 x hn (zo9 h)
 unfold zjo
 unfold tbV at *
 generalize tbB n x (2 ^ n) = T at *
 generalize zdd x (n : Nat) = c at *
 obtain ⟨op, ix, args⟩ := x
 refine zbx env0_ok fn21 [(0, .agg (cX (.nd op ix args))), (1, .int .i64 (n : Nat))] (by show 2 ≤ 24; decide) rfl fun w0 N0 => ?_
 unfold ic21
 refine zai (za0 rfl (zbd rfl rfl (zau (zad rfl (zab (zac ?_))))))
 refine ze6 [(some (1, 1), [.int .i64 0, .int .u64 0])] [(0, 0, cX (.nd op ix args))] [(1, .int .i64 (n : Nat)), (2, .vptr (cX (.nd op ix args))), (4, .mptr 0 0 0)] rfl (.cons rfl rfl .nil) (.cons rfl (.cons (.same rfl) (.cons (.same rfl) .nil)) .nil) (.cons rfl (.same rfl) (.cons rfl (.fptr rfl rfl) (.cons rfl (.mptr rfl) .nil))) ?_
 repeat (first | refine zai ?_ | refine za0 rfl ?_ | refine zab ?_ | refine zac ?_ | refine zbg ?_ | refine zaj ?_ | refine zat ?_ | refine zbl rfl ?_ | refine zbo rfl ?_ | refine zb5 ?_ | refine zaz ?_ | refine zb4 ?_ | refine za6 ?_ | refine za4 rfl ?_ | refine za2 ?_ | refine za7 ?_ | refine zbs rfl ?_ | refine zbu rfl rfl ?_ | refine zc6 rfl ?_ | refine zad rfl ?_ | refine zam rfl rfl ?_ | refine zar rfl rfl rfl rfl ?_ | refine zak rfl rfl rfl rfl rfl rfl rfl ?_ | refine za5 rfl ?_ | refine zal rfl rfl rfl ?_ | refine za1 rfl rfl rfl ?_ | refine zag rfl rfl rfl rfl ?_ | refine zau ?_ | refine zah rfl rfl ?_ | refine zaa rfl rfl ?_ | refine zc2 rfl rfl ?_ | refine zbh rfl rfl ?_ | refine zb0 rfl rfl ?_ | refine zao rfl rfl ?_ | refine zbd rfl rfl ?_ | refine zaf rfl rfl rfl ?_ | refine zax rfl rfl ?_ | refine zan rfl rfl rfl rfl ?_ | refine za9 rfl rfl rfl rfl ?_ | refine zaq rfl rfl rfl rfl ?_ | refine zb9 rfl rfl ?_ | refine zb6 rfl rfl ?_ | refine zae rfl rfl ?_ | refine zba ?_ | refine zas env0_ok rfl rfl rfl ?_ | refine zav (op := .add) rfl rfl rfl ?_ | refine zav (op := .sub) rfl rfl rfl ?_ | refine zb8 rfl rfl rfl ?_ | refine zb7 rfl rfl rfl ?_ | refine zb2 rfl rfl rfl ?_ | refine zb1 rfl rfl rfl ?_ | refine zb3 rfl rfl (by omega) (by assumption) rfl ?_ | refine za1 rfl rfl (decide_eq_true ⟨by omega, by omega⟩) ?_ | refine zay rfl rfl (by omega) (by omega) ?_ | refine zap rfl rfl rfl ?_ | refine zbc rfl ?_ | refine zbb rfl ?_)
 refine zbm rfl rfl rfl (fun h4 => ?_) fun h4 => ?_
 ·have h6 : n > 6 := by
   have h4 : ((n : Nat) : Int) > 6 := of_decide_eq_true h4
   omega
  rw [if_pos h6]
  repeat (first | refine zai ?_ | refine za0 rfl ?_ | refine zab ?_ | refine zac ?_ | refine zbg ?_ | refine zaj ?_ | refine zat ?_ | refine zbl rfl ?_ | refine zbo rfl ?_ | refine zb5 ?_ | refine zaz ?_ | refine zb4 ?_ | refine za6 ?_ | refine za4 rfl ?_ | refine za2 ?_ | refine za7 ?_ | refine zbs rfl ?_ | refine zbu rfl rfl ?_ | refine zc6 rfl ?_ | refine zad rfl ?_ | refine zam rfl rfl ?_ | refine zar rfl rfl rfl rfl ?_ | refine zak rfl rfl rfl rfl rfl rfl rfl ?_ | refine za5 rfl ?_ | refine zal rfl rfl rfl ?_ | refine za1 rfl rfl rfl ?_ | refine zag rfl rfl rfl rfl ?_ | refine zau ?_ | refine zah rfl rfl ?_ | refine zaa rfl rfl ?_ | refine zc2 rfl rfl ?_ | refine zbh rfl rfl ?_ | refine zb0 rfl rfl ?_ | refine zao rfl rfl ?_ | refine zbd rfl rfl ?_ | refine zaf rfl rfl rfl ?_ | refine zax rfl rfl ?_ | refine zan rfl rfl rfl rfl ?_ | refine za9 rfl rfl rfl rfl ?_ | refine zaq rfl rfl rfl rfl ?_ | refine zb9 rfl rfl ?_ | refine zb6 rfl rfl ?_ | refine zae rfl rfl ?_ | refine zba ?_ | refine zas env0_ok rfl rfl rfl ?_ | refine zav (op := .add) rfl rfl rfl ?_ | refine zav (op := .sub) rfl rfl rfl ?_ | refine zb8 rfl rfl rfl ?_ | refine zb7 rfl rfl rfl ?_ | refine zb2 rfl rfl rfl ?_ | refine zb1 rfl rfl rfl ?_ | refine zb3 rfl rfl (by omega) (by assumption) rfl ?_ | refine za1 rfl rfl (decide_eq_true ⟨by omega, by omega⟩) ?_ | refine zay rfl rfl (by omega) (by omega) ?_ | refine zap rfl rfl rfl ?_ | refine zbc rfl ?_ | refine zbb rfl ?_)
  exact zbe ⟨.inr rfl, _, rfl, rfl⟩
 ·have h6 : ¬ n > 6 := by
   have h4 : ¬ ((n : Nat) : Int) > 6 := of_decide_eq_false h4
   omega
  rw [if_neg h6]
  repeat (first | refine zai ?_ | refine za0 rfl ?_ | refine zab ?_ | refine zac ?_ | refine zbg ?_ | refine zaj ?_ | refine zat ?_ | refine zbl rfl ?_ | refine zbo rfl ?_ | refine zb5 ?_ | refine zaz ?_ | refine zb4 ?_ | refine za6 ?_ | refine za4 rfl ?_ | refine za2 ?_ | refine za7 ?_ | refine zbs rfl ?_ | refine zbu rfl rfl ?_ | refine zc6 rfl ?_ | refine zad rfl ?_ | refine zam rfl rfl ?_ | refine zar rfl rfl rfl rfl ?_ | refine zak rfl rfl rfl rfl rfl rfl rfl ?_ | refine za5 rfl ?_ | refine zal rfl rfl rfl ?_ | refine za1 rfl rfl rfl ?_ | refine zag rfl rfl rfl rfl ?_ | refine zau ?_ | refine zah rfl rfl ?_ | refine zaa rfl rfl ?_ | refine zc2 rfl rfl ?_ | refine zbh rfl rfl ?_ | refine zb0 rfl rfl ?_ | refine zao rfl rfl ?_ | refine zbd rfl rfl ?_ | refine zaf rfl rfl rfl ?_ | refine zax rfl rfl ?_ | refine zan rfl rfl rfl rfl ?_ | refine za9 rfl rfl rfl rfl ?_ | refine zaq rfl rfl rfl rfl ?_ | refine zb9 rfl rfl ?_ | refine zb6 rfl rfl ?_ | refine zae rfl rfl ?_ | refine zba ?_ | refine zas env0_ok rfl rfl rfl ?_ | refine zav (op := .add) rfl rfl rfl ?_ | refine zav (op := .sub) rfl rfl rfl ?_ | refine zb8 rfl rfl rfl ?_ | refine zb7 rfl rfl rfl ?_ | refine zb2 rfl rfl rfl ?_ | refine zb1 rfl rfl rfl ?_ | refine zb3 rfl rfl (by omega) (by assumption) rfl ?_ | refine za1 rfl rfl (decide_eq_true ⟨by omega, by omega⟩) ?_ | refine zay rfl rfl (by omega) (by omega) ?_ | refine zap rfl rfl rfl ?_ | refine zbc rfl ?_ | refine zbb rfl ?_)
  refine zbn rfl rfl p33 (fun h => Bool.noConfusion (show false = true from h)) ?_
  repeat (first | refine zai ?_ | refine za0 rfl ?_ | refine zab ?_ | refine zac ?_ | refine zbg ?_ | refine zaj ?_ | refine zat ?_ | refine zbl rfl ?_ | refine zbo rfl ?_ | refine zb5 ?_ | refine zaz ?_ | refine zb4 ?_ | refine za6 ?_ | refine za4 rfl ?_ | refine za2 ?_ | refine za7 ?_ | refine zbs rfl ?_ | refine zbu rfl rfl ?_ | refine zc6 rfl ?_ | refine zad rfl ?_ | refine zam rfl rfl ?_ | refine zar rfl rfl rfl rfl ?_ | refine zak rfl rfl rfl rfl rfl rfl rfl ?_ | refine za5 rfl ?_ | refine zal rfl rfl rfl ?_ | refine za1 rfl rfl rfl ?_ | refine zag rfl rfl rfl rfl ?_ | refine zau ?_ | refine zah rfl rfl ?_ | refine zaa rfl rfl ?_ | refine zc2 rfl rfl ?_ | refine zbh rfl rfl ?_ | refine zb0 rfl rfl ?_ | refine zao rfl rfl ?_ | refine zbd rfl rfl ?_ | refine zaf rfl rfl rfl ?_ | refine zax rfl rfl ?_ | refine zan rfl rfl rfl rfl ?_ | refine za9 rfl rfl rfl rfl ?_ | refine zaq rfl rfl rfl rfl ?_ | refine zb9 rfl rfl ?_ | refine zb6 rfl rfl ?_ | refine zae rfl rfl ?_ | refine zba ?_ | refine zas env0_ok rfl rfl rfl ?_ | refine zav (op := .add) rfl rfl rfl ?_ | refine zav (op := .sub) rfl rfl rfl ?_ | refine zb8 rfl rfl rfl ?_ | refine zb7 rfl rfl rfl ?_ | refine zb2 rfl rfl rfl ?_ | refine zb1 rfl rfl rfl ?_ | refine zb3 rfl rfl (by omega) (by assumption) rfl ?_ | refine za1 rfl rfl (decide_eq_true ⟨by omega, by omega⟩) ?_ | refine zay rfl rfl (by omega) (by omega) ?_ | refine zap rfl rfl rfl ?_ | refine zbc rfl ?_ | refine zbb rfl ?_)
  refine zbm rfl rfl rfl (fun hc => ?_) fun hc => ?_
  ·rw [if_neg (bne_iff_ne.1 hc)]
   repeat (first | refine zai ?_ | refine za0 rfl ?_ | refine zab ?_ | refine zac ?_ | refine zbg ?_ | refine zaj ?_ | refine zat ?_ | refine zbl rfl ?_ | refine zbo rfl ?_ | refine zb5 ?_ | refine zaz ?_ | refine zb4 ?_ | refine za6 ?_ | refine za4 rfl ?_ | refine za2 ?_ | refine za7 ?_ | refine zbs rfl ?_ | refine zbu rfl rfl ?_ | refine zc6 rfl ?_ | refine zad rfl ?_ | refine zam rfl rfl ?_ | refine zar rfl rfl rfl rfl ?_ | refine zak rfl rfl rfl rfl rfl rfl rfl ?_ | refine za5 rfl ?_ | refine zal rfl rfl rfl ?_ | refine za1 rfl rfl rfl ?_ | refine zag rfl rfl rfl rfl ?_ | refine zau ?_ | refine zah rfl rfl ?_ | refine zaa rfl rfl ?_ | refine zc2 rfl rfl ?_ | refine zbh rfl rfl ?_ | refine zb0 rfl rfl ?_ | refine zao rfl rfl ?_ | refine zbd rfl rfl ?_ | refine zaf rfl rfl rfl ?_ | refine zax rfl rfl ?_ | refine zan rfl rfl rfl rfl ?_ | refine za9 rfl rfl rfl rfl ?_ | refine zaq rfl rfl rfl rfl ?_ | refine zb9 rfl rfl ?_ | refine zb6 rfl rfl ?_ | refine zae rfl rfl ?_ | refine zba ?_ | refine zas env0_ok rfl rfl rfl ?_ | refine zav (op := .add) rfl rfl rfl ?_ | refine zav (op := .sub) rfl rfl rfl ?_ | refine zb8 rfl rfl rfl ?_ | refine zb7 rfl rfl rfl ?_ | refine zb2 rfl rfl rfl ?_ | refine zb1 rfl rfl rfl ?_ | refine zb3 rfl rfl (by omega) (by assumption) rfl ?_ | refine za1 rfl rfl (decide_eq_true ⟨by omega, by omega⟩) ?_ | refine zay rfl rfl (by omega) (by omega) ?_ | refine zap rfl rfl rfl ?_ | refine zbc rfl ?_ | refine zbb rfl ?_)
   exact zbe ⟨.inr rfl, _, rfl, rfl⟩
  ·have hc : c = 0 := by simpa using hc
   have q55 := p55 (by omega) hc
   rw [if_pos hc]
   repeat (first | refine zai ?_ | refine za0 rfl ?_ | refine zab ?_ | refine zac ?_ | refine zbg ?_ | refine zaj ?_ | refine zat ?_ | refine zbl rfl ?_ | refine zbo rfl ?_ | refine zb5 ?_ | refine zaz ?_ | refine zb4 ?_ | refine za6 ?_ | refine za4 rfl ?_ | refine za2 ?_ | refine za7 ?_ | refine zbs rfl ?_ | refine zbu rfl rfl ?_ | refine zc6 rfl ?_ | refine zad rfl ?_ | refine zam rfl rfl ?_ | refine zar rfl rfl rfl rfl ?_ | refine zak rfl rfl rfl rfl rfl rfl rfl ?_ | refine za5 rfl ?_ | refine zal rfl rfl rfl ?_ | refine za1 rfl rfl rfl ?_ | refine zag rfl rfl rfl rfl ?_ | refine zau ?_ | refine zah rfl rfl ?_ | refine zaa rfl rfl ?_ | refine zc2 rfl rfl ?_ | refine zbh rfl rfl ?_ | refine zb0 rfl rfl ?_ | refine zao rfl rfl ?_ | refine zbd rfl rfl ?_ | refine zaf rfl rfl rfl ?_ | refine zax rfl rfl ?_ | refine zan rfl rfl rfl rfl ?_ | refine za9 rfl rfl rfl rfl ?_ | refine zaq rfl rfl rfl rfl ?_ | refine zb9 rfl rfl ?_ | refine zb6 rfl rfl ?_ | refine zae rfl rfl ?_ | refine zba ?_ | refine zas env0_ok rfl rfl rfl ?_ | refine zav (op := .add) rfl rfl rfl ?_ | refine zav (op := .sub) rfl rfl rfl ?_ | refine zb8 rfl rfl rfl ?_ | refine zb7 rfl rfl rfl ?_ | refine zb2 rfl rfl rfl ?_ | refine zb1 rfl rfl rfl ?_ | refine zb3 rfl rfl (by omega) (by assumption) rfl ?_ | refine za1 rfl rfl (decide_eq_true ⟨by omega, by omega⟩) ?_ | refine zay rfl rfl (by omega) (by omega) ?_ | refine zap rfl rfl rfl ?_ | refine zbc rfl ?_ | refine zbb rfl ?_)
   refine zbn rfl rfl q55 (fun h => Bool.noConfusion (show false = true from h)) ?_
   repeat (first | refine zai ?_ | refine za0 rfl ?_ | refine zab ?_ | refine zac ?_ | refine zbg ?_ | refine zaj ?_ | refine zat ?_ | refine zbl rfl ?_ | refine zbo rfl ?_ | refine zb5 ?_ | refine zaz ?_ | refine zb4 ?_ | refine za6 ?_ | refine za4 rfl ?_ | refine za2 ?_ | refine za7 ?_ | refine zbs rfl ?_ | refine zbu rfl rfl ?_ | refine zc6 rfl ?_ | refine zad rfl ?_ | refine zam rfl rfl ?_ | refine zar rfl rfl rfl rfl ?_ | refine zak rfl rfl rfl rfl rfl rfl rfl ?_ | refine za5 rfl ?_ | refine zal rfl rfl rfl ?_ | refine za1 rfl rfl rfl ?_ | refine zag rfl rfl rfl rfl ?_ | refine zau ?_ | refine zah rfl rfl ?_ | refine zaa rfl rfl ?_ | refine zc2 rfl rfl ?_ | refine zbh rfl rfl ?_ | refine zb0 rfl rfl ?_ | refine zao rfl rfl ?_ | refine zbd rfl rfl ?_ | refine zaf rfl rfl rfl ?_ | refine zax rfl rfl ?_ | refine zan rfl rfl rfl rfl ?_ | refine za9 rfl rfl rfl rfl ?_ | refine zaq rfl rfl rfl rfl ?_ | refine zb9 rfl rfl ?_ | refine zb6 rfl rfl ?_ | refine zae rfl rfl ?_ | refine zba ?_ | refine zas env0_ok rfl rfl rfl ?_ | refine zav (op := .add) rfl rfl rfl ?_ | refine zav (op := .sub) rfl rfl rfl ?_ | refine zb8 rfl rfl rfl ?_ | refine zb7 rfl rfl rfl ?_ | refine zb2 rfl rfl rfl ?_ | refine zb1 rfl rfl rfl ?_ | refine zb3 rfl rfl (by omega) (by assumption) rfl ?_ | refine za1 rfl rfl (decide_eq_true ⟨by omega, by omega⟩) ?_ | refine zay rfl rfl (by omega) (by omega) ?_ | refine zap rfl rfl rfl ?_ | refine zbc rfl ?_ | refine zbb rfl ?_)
   exact zbe ⟨.inr rfl, _, rfl, rfl⟩
-- pneumatic/pneumaticref05.Eval
def ic19 : IC := .seq (.region [⟨(some 2), .box (.t 0), none⟩,
  ⟨(some 4), .mov (.c (.bool false)), none⟩,
  ⟨(some 5), .mov (.c (.int .i64 0)), none⟩] none)
 (.seq (.seq (.region [⟨(some 7), .load (some 3) (.t 2), none⟩,
  ⟨(some 8), .mov (.t 1), none⟩,
  ⟨(some 9), .len false (.t 8), none⟩,
  ⟨(some 10), .call (.c (.fn 33 [] [])) [(.t 7), (.t 9)], none⟩,
  ⟨(some 6), .mov (.t 10), none⟩] none)
 (.seq (.region [⟨(some 11), .mov (.t 6), none⟩,
  ⟨(some 12), .bin .neq (.t 11) (.c (.int .i64 0)), none⟩] none)
 (.cond (.t 12) (.seq (.region [⟨(some 13), .mov (.t 6), none⟩,
  ⟨(some 4), .mov (.c (.bool false)), none⟩,
  ⟨(some 5), .mov (.t 13), none⟩] none)
 (.ret))
 (.skip))))
 (.seq (.region [⟨(some 14), .load (some 3) (.t 2), none⟩,
  ⟨(some 15), .mov (.t 1), none⟩,
  ⟨(some 16), .call (.c (.fn 54 [] [])) [(.t 14), (.t 15)], none⟩,
  ⟨(some 4), .mov (.t 16), none⟩,
  ⟨(some 5), .mov (.c (.int .i64 0)), none⟩] none)
 (.ret)))
theorem fn19 : env0.fn 19 = some ⟨17, ic19, [.t 4, .t 5]⟩ := by kernel_rfl
theorem eval19 (x : Ex) (hs : Slim x) (v : List Bool) : PF Try.prog 19 [.agg (cX x), vsB v] (zp8 x v) := by
 have h33 := zqu x hs v.length
 have h54 : zdd x v.length = 0 → PF Try.prog 54 [.agg (cX x), vsB v] (.bool (zc4 v x)) := fun h => zrl v _ x (Nat.le_refl _) (zo9 h)
 have hl : ((v.map fun b => ([.bool b] : List AV)).length : Int) = v.length := by rw [List.length_map]
 obtain ⟨op, ix, args⟩ := x
 refine zbx env0_ok fn19 [(0, .agg (cX (.nd op ix args))), (1, vsB v)] (by show 2 ≤ 17; decide) rfl fun w0 N0 => ?_
 unfold ic19 zp8
 repeat (first | refine zai ?_ | refine za0 rfl ?_ | refine zab ?_ | refine zac ?_ | refine zad rfl ?_ | refine zar rfl rfl rfl rfl ?_ | refine zbh rfl rfl ?_ | refine zbd rfl rfl ?_)
 refine zbn rfl (by rw [show (((fun n => AV.int .i64 n) (v.map fun b => ([.bool b] : List AV)).length) : AV) = .int .i64 v.length from congrArg _ hl]; rfl) h33 (fun h => Bool.noConfusion (show false = true from h)) ?_
 repeat (first | refine zai ?_ | refine za0 rfl ?_ | refine zab ?_ | refine zac ?_ | refine zad rfl ?_)
 refine zbm rfl rfl rfl (fun h1 => ?_) fun h1 => ?_
 ·have h1 := bne_iff_ne.1 h1
  rw [if_neg h1]
  repeat (first | refine zai ?_ | refine za0 rfl ?_ | refine zab ?_ | refine zac ?_ | refine zbl rfl ?_ | refine zaz ?_ | refine za2 ?_ | refine zad rfl ?_)
  exact zbe ⟨.inr rfl, _, rfl, rfl⟩
 ·have h1 : zdd (.nd op ix args) v.length = 0 := by simpa using h1
  rw [if_pos h1]
  repeat (first | refine zai ?_ | refine za0 rfl ?_ | refine zab ?_ | refine zac ?_ | refine zat ?_ | refine zbo rfl ?_ | refine zad rfl ?_ | refine zar rfl rfl rfl rfl ?_)
  refine zbn rfl rfl (h54 h1) (fun h => Bool.noConfusion (show false = true from h)) ?_
  repeat (first | refine zab ?_ | refine zac ?_ | refine zaz ?_ | refine zad rfl ?_)
  exact zbe ⟨.inr rfl, _, rfl, rfl⟩
end Go.Proofs.Ytmnkjofaodbokaa
namespace Go.Proofs.Ytmnkjofaodbokaa
open Go Go.Am
section
variable {P : Program} {w0 : World} {N0 : Nat} {k : List Fr} {Q : Exit → AS → Prop} {pf : Kn} {ios : List Opr} {n nx ck : Nat} {mk : List (Nat × Nat)} {md : Md} {l : List (Nat × AV)} {hp : List (Nat × Nat × AObj)}
theorem o_mks {d sz bytes : Nat} {z : List AV} {a c : Arg} {lv cv : Int} {kd kc : IntKind} (ha : zc3 a l = some (.int kd lv)) (hc : zc3 c l = some (.int kc cv)) (hb : 0 ≤ lv ∧ lv ≤ cv ∧ cv ≤ 1048576 ∧ bytes ≤ 16777216)
  (go : Om P w0 N0 md pf ios (st n ((d, .ms nx ck sz 0 lv.toNat (some cv.toNat)) :: l) ((nx, ck, .cells (zfm cv.toNat z)) :: hp) (nx + 1) (ck + 1) mk) k Q) (hx : Ops pf (st n l hp nx ck mk) (.mkslice sz bytes z a c) := by exact trivial) :
  Om P w0 N0 md pf (⟨some d, .mkslice sz bytes z a c, none⟩ :: ios) (st n l hp nx ck mk) k Q :=
 zef (by simp only [iop, zbv, ha, hc, if_pos hb]; rfl) go hx
end
theorem zir : ∀ n, zfm n [AV.bool false] = (List.replicate n false).map AV.bool
 | 0 => rfl
 | n + 1 => by
  show AV.bool false :: zfm n [AV.bool false] = _
  rw [zir n]; rfl
theorem zps {S : AS} {d id sp len : Nat} {cap : Option Nat} (l : List Bool) (hn : l.length = len) (hl : Am.look id S.heap = some (sp, .cells (l.map AV.bool))) : S.view (d + 2) (.ms id sp 1 0 len cap) = vsB l := by
 subst hn
 have hf : l.map AV.bool = (l.map fun b => ([.bool b] : List AV)).flatten := by
  clear hl
  induction l with
  | nil => rfl
  | cons b l ih => simp [ih]
 have e : S.elems 1 (.ms id sp 1 0 l.length cap) = some (l.map fun b => ([.bool b] : List AV)) := by
  obtain ⟨n, t, hp, nx, ck, mk⟩ := S
  exact elems_ms (ys := []) (cap := cap) (n := n) (nx := nx) (ck := ck) (mk := mk) (l := []) (hp := hp) (by rw [List.append_nil, ← hf]; exact hl) (List.length_map ..) (fun x hx => by obtain ⟨s, _, rfl⟩ := List.mem_map.1 hx; rfl)
 simp only [AS.view, e]
 unfold vsB
 congr 1
 rw [List.map_map]
 exact List.map_congr_left fun _ _ => rfl
theorem bin_shrI {k i : Nat} (h : i ≤ 63) : Am.binOp .shr (.int .i64 (k : Nat)) (.int .i64 (i : Nat)) = some (.int .i64 ((k >>> i : Nat) : Int)) := by
 show zdq .shr .i64 ((k : Nat) : Int) ((i : Nat) : Int) = _
 unfold zdq
 rw [if_neg (by omega)]
 show some (AV.int .i64 (((k : Nat) : Int).fdiv (2 ^ (min (Int.toNat ((i : Nat) : Int)) 64)))) = some (AV.int .i64 _)
 rw [Int.toNat_natCast, Nat.min_eq_left (by omega), Nat.shiftRight_eq_div_pow]
 have : (2 : Int) ^ i = ((2 ^ i : Nat) : Int) := by push_cast; rfl
 rw [this, Int.fdiv_eq_ediv_of_nonneg _ (Int.natCast_nonneg _)]
 rfl
theorem and_one : ∀ m : Nat, m < 64 → IntKind.wrap .i64 ((BitVec.ofInt 64 ((m : Nat) : Int) &&& BitVec.ofInt 64 1).toNat) = ((m % 2 : Nat) : Int) := by decide +kernel
theorem bin_and1 {m : Nat} (h : m < 64) : Am.binOp .and (.int .i64 (m : Nat)) (.int .i64 1) = some (.int .i64 ((m % 2 : Nat) : Int)) := by
 show some (AV.int .i64 (IntKind.wrap .i64 ((BitVec.ofInt 64 ((m : Nat) : Int) &&& BitVec.ofInt 64 1).toNat))) = _
 rw [and_one m h]
theorem shr_bit (k i : Nat) : decide ((((k >>> i) % 2 : Nat) : Int) = 1) = k.testBit i := by
 rw [Nat.testBit_eq_decide_div_mod_eq, Nat.shiftRight_eq_div_pow]
 congr 1
 exact propext ⟨fun h => by omega, fun h => by omega⟩
theorem shr_lt {k : Nat} (i : Nat) (h : k < 64) : k >>> i < 64 := by
 rw [Nat.shiftRight_eq_div_pow]
 exact Nat.lt_of_le_of_lt (Nat.div_le_self _ _) h
theorem eq_ptB {n k : Nat} {w : List Bool} (hw : w.length = n) (h : ∀ j, j < n → w[j]? = some (k.testBit j)) : w = ptB n k := by
 apply List.ext_getElem?
 intro j
 by_cases hj : j < n
 ·rw [h j hj]
  unfold ptB
  rw [List.getElem?_map, List.getElem?_range hj]; rfl
 ·rw [List.getElem?_eq_none (by omega), List.getElem?_eq_none (by rw [zgv]; omega)]
def b20_2 : IC := .seq (.region [⟨(some 37), .bin .lss (.t 36) (.t 35), none⟩] none)
 (.seq (.cond (.t 37) (.skip)
 (.exit 2))
 (.seq (.block 3 (.seq (.region [⟨(some 38), .mov (.t 36), none⟩,
  ⟨(some 10), .mov (.t 38), none⟩] none)
 (.region [⟨(some 39), .mov (.t 8), none⟩,
  ⟨(some 40), .mov (.t 10), none⟩,
  ⟨(some 41), .mov (.t 9), none⟩,
  ⟨(some 42), .mov (.t 10), none⟩,
  ⟨(some 43), .bin .shr (.t 41) (.t 42), none⟩,
  ⟨(some 44), .bin .and (.t 43) (.c (.int .i64 1)), none⟩,
  ⟨(some 45), .bin .eql (.t 44) (.c (.int .i64 1)), none⟩,
  ⟨(some 46), .idxs 1 (.t 39) (.t 40), none⟩,
  ⟨none, .store 1 (.t 46) (.t 45), none⟩] none)))
 (.region [⟨(some 47), .bin .add (.t 36) (.c (.int .i64 1)), none⟩,
  ⟨(some 36), .mov (.t 47), none⟩] none)))
def b20_0 : IC := .seq (.region [⟨(some 32), .bin .lss (.t 31) (.t 30), none⟩] none)
 (.seq (.cond (.t 32) (.skip)
 (.exit 0))
 (.seq (.block 1 (.seq (.region [⟨(some 33), .mov (.t 31), none⟩,
  ⟨(some 9), .mov (.t 33), none⟩] none)
 (.seq (.seq (.region [⟨(some 34), .mov (.t 8), none⟩,
  ⟨(some 35), .len false (.t 34), none⟩,
  ⟨(some 36), .mov (.c (.int .i64 0)), none⟩] none)
 (.block 2 (.loop b20_2)))
 (.seq (.region [⟨(some 48), .load (some 3) (.t 2), none⟩,
  ⟨(some 49), .mov (.t 8), none⟩,
  ⟨(some 50), .call (.c (.fn 53 [] [])) [(.t 48), (.t 49)], none⟩] none)
 (.cond (.t 50) (.region [⟨(some 51), .faddr 1 (.t 7), none⟩,
  ⟨(some 52), .load none (.t 51), none⟩,
  ⟨(some 53), .mov (.t 9), none⟩,
  ⟨(some 54), .bin .shl (.c (.int .u64 1)) (.t 53), none⟩,
  ⟨(some 55), .bin .or (.t 52) (.t 54), none⟩,
  ⟨(some 56), .faddr 1 (.t 7), none⟩,
  ⟨none, .store 1 (.t 56) (.t 55), none⟩] (some [[], [0], [], [2], [1, 3], [0, 1, 2, 3, 4], [5, 4, 0, 1, 2, 3, 4]]))
 (.skip))))))
 (.region [⟨(some 57), .bin .add (.t 31) (.c (.int .i64 1)), none⟩,
  ⟨(some 31), .mov (.t 57), none⟩] none)))
-- pneumatic/boolexp.Table
def ic20 : IC := .seq (.region [⟨(some 2), .box (.t 0), none⟩,
  ⟨(some 4), .alloc [.int .i64 0, .int .u64 0], none⟩,
  ⟨(some 5), .mov (.c (.int .i64 0)), none⟩] none)
 (.seq (.seq (.region [⟨(some 11), .mov (.t 1), none⟩,
  ⟨(some 12), .bin .lss (.t 11) (.c (.int .i64 0)), none⟩,
  ⟨(some 13), .mov (.t 12), none⟩,
  ⟨(some 14), .mov (.t 1), some (13, false)⟩,
  ⟨(some 15), .bin .gtr (.t 14) (.c (.int .i64 6)), some (13, false)⟩,
  ⟨(some 16), .pick (.t 13) (.c (.bool true)) (.t 15), none⟩] none)
 (.cond (.t 16) (.seq (.region [⟨(some 17), .build [.int .i64 0, .int .u64 0] [], none⟩,
  ⟨none, .store 2 (.t 4) (.t 17), none⟩,
  ⟨(some 5), .mov (.c (.int .i64 2)), none⟩] none)
 (.ret))
 (.skip)))
 (.seq (.seq (.region [⟨(some 18), .load (some 3) (.t 2), none⟩,
  ⟨(some 19), .mov (.t 1), none⟩,
  ⟨(some 20), .call (.c (.fn 32 [] [])) [(.t 18), (.t 19)], none⟩,
  ⟨(some 6), .mov (.t 20), none⟩] none)
 (.seq (.region [⟨(some 21), .mov (.t 6), none⟩,
  ⟨(some 22), .bin .neq (.t 21) (.c (.int .i64 0)), none⟩] none)
 (.cond (.t 22) (.seq (.region [⟨(some 23), .build [.int .i64 0, .int .u64 0] [], none⟩,
  ⟨(some 24), .mov (.t 6), none⟩,
  ⟨none, .store 2 (.t 4) (.t 23), none⟩,
  ⟨(some 5), .mov (.t 24), none⟩] none)
 (.ret))
 (.skip))))
 (.seq (.region [⟨(some 25), .mov (.t 1), none⟩,
  ⟨(some 26), .build [.int .i64 0, .int .u64 0] [(0, 1, (.t 25))], none⟩,
  ⟨(some 7), .alloc [.int .i64 0, .int .u64 0], none⟩,
  ⟨none, .store 2 (.t 7) (.t 26), none⟩] none)
 (.seq (.region [⟨(some 27), .mov (.t 1), none⟩,
  ⟨(some 28), .mkslice 1 1 [.bool false] (.t 27) (.t 27), none⟩,
  ⟨(some 8), .mov (.t 28), none⟩] none)
 (.seq (.seq (.region [⟨(some 29), .mov (.t 1), none⟩,
  ⟨(some 30), .bin .shl (.c (.int .i64 1)) (.t 29), none⟩,
  ⟨(some 31), .mov (.c (.int .i64 0)), none⟩] none)
 (.block 0 (.loop b20_0)))
 (.seq (.region [⟨(some 58), .load (some 2) (.t 7), none⟩,
  ⟨none, .store 2 (.t 4) (.t 58), none⟩,
  ⟨(some 5), .mov (.c (.int .i64 0)), none⟩] none)
 (.ret)))))))
theorem fn20 : env0.fn 20 = some ⟨59, ic20, [.cell 4 (some 2), .t 5]⟩ := by kernel_rfl
set_option maxHeartbeats 4000000 in
theorem table20 (x : Ex) (hs : Slim x) (n : Nat) : PF Try.prog 20 [.agg (cX x), .int .i64 (n : Nat)] (zjo x n) := by
 have p32 := zme x hs (n : Nat)
 rw [zf6] at p32
 have p53 : zdd x (n : Nat) = 0 → ∀ k, PF Try.prog 53 [.agg (cX x), vsB (ptB n k)] (.bool (zc4 (ptB n k) x)) := fun h k => zr6 (ptB n k) _ x (Nat.le_refl _) (by rw [zgv]; exact zo9 h)
 unfold zjo tbV
 have hT : ∀ k, tbB n x (k + 1) = if zc4 (ptB n k) x = true then tbB n x k ||| 1#64 <<< k else tbB n x k := fun k => rfl
 have hT0 : tbB n x 0 = 0#64 := rfl
 generalize tbB n x = T at *
 generalize hhx : (fun k => zc4 (ptB n k) x) = B at *
 have hB : ∀ k, zc4 (ptB n k) x = B k := fun k => by rw [← hhx]
 simp only [hB] at p53 hT
 clear hhx hB
 generalize zdd x (n : Nat) = c at *
 obtain ⟨op, ix, args⟩ := x
 refine zbx env0_ok fn20 [(0, .agg (cX (.nd op ix args))), (1, .int .i64 (n : Nat))] (by show 2 ≤ 59; decide) rfl fun w0 N0 => ?_
 unfold ic20
 refine zai (za0 rfl (zbd rfl rfl (zau (zad rfl (zab (zac ?_))))))
 refine ze6 [(some (1, 1), [.int .i64 0, .int .u64 0])] [(0, 0, cX (.nd op ix args))] [(1, .int .i64 (n : Nat)), (2, .vptr (cX (.nd op ix args))), (4, .mptr 0 0 0)] rfl (.cons rfl rfl .nil) (.cons rfl (.cons (.same rfl) (.cons (.same rfl) .nil)) .nil) (.cons rfl (.same rfl) (.cons rfl (.fptr rfl rfl) (.cons rfl (.mptr rfl) .nil))) ?_
 repeat (first | refine zai ?_ | refine za0 rfl ?_ | refine zab ?_ | refine zac ?_ | refine zbg ?_ | refine zaj ?_ | refine zat ?_ | refine zbl rfl ?_ | refine zbo rfl ?_ | refine zb5 ?_ | refine zaz ?_ | refine zb4 ?_ | refine za6 ?_ | refine za4 rfl ?_ | refine za2 ?_ | refine za7 ?_ | refine zbs rfl ?_ | refine zbu rfl rfl ?_ | refine zc6 rfl ?_ | refine zad rfl ?_ | refine zam rfl rfl ?_ | refine zar rfl rfl rfl rfl ?_ | refine zak rfl rfl rfl rfl rfl rfl rfl ?_ | refine za5 rfl ?_ | refine zal rfl rfl rfl ?_ | refine za1 rfl rfl rfl ?_ | refine zag rfl rfl rfl rfl ?_ | refine zau ?_ | refine zah rfl rfl ?_ | refine zaa rfl rfl ?_ | refine zc2 rfl rfl ?_ | refine zbh rfl rfl ?_ | refine zb0 rfl rfl ?_ | refine zao rfl rfl ?_ | refine zbd rfl rfl ?_ | refine zaf rfl rfl rfl ?_ | refine zax rfl rfl ?_ | refine zan rfl rfl rfl rfl ?_ | refine za9 rfl rfl rfl rfl ?_ | refine zaq rfl rfl rfl rfl ?_ | refine zb9 rfl rfl ?_ | refine zb6 rfl rfl ?_ | refine zae rfl rfl ?_ | refine zba ?_ | refine zas env0_ok rfl rfl rfl ?_ | refine zav (op := .add) rfl rfl rfl ?_ | refine zav (op := .sub) rfl rfl rfl ?_ | refine zb8 rfl rfl rfl ?_ | refine zb7 rfl rfl rfl ?_ | refine zb2 rfl rfl rfl ?_ | refine zb1 rfl rfl rfl ?_ | refine zb3 rfl rfl (by omega) (by assumption) rfl ?_ | refine za1 rfl rfl (decide_eq_true ⟨by omega, by omega⟩) ?_ | refine zay rfl rfl (by omega) (by omega) ?_ | refine zap rfl rfl rfl ?_ | refine zbc rfl ?_ | refine zbb rfl ?_)
 refine zbm rfl rfl rfl (fun h4 => ?_) fun h4 => ?_
 ·have h6 : n > 6 := by
   have h4 : ((n : Nat) : Int) > 6 := of_decide_eq_true h4
   omega
  rw [if_pos h6]
  repeat (first | refine zai ?_ | refine za0 rfl ?_ | refine zab ?_ | refine zac ?_ | refine zbg ?_ | refine zaj ?_ | refine zat ?_ | refine zbl rfl ?_ | refine zbo rfl ?_ | refine zb5 ?_ | refine zaz ?_ | refine zb4 ?_ | refine za6 ?_ | refine za4 rfl ?_ | refine za2 ?_ | refine za7 ?_ | refine zbs rfl ?_ | refine zbu rfl rfl ?_ | refine zc6 rfl ?_ | refine zad rfl ?_ | refine zam rfl rfl ?_ | refine zar rfl rfl rfl rfl ?_ | refine zak rfl rfl rfl rfl rfl rfl rfl ?_ | refine za5 rfl ?_ | refine zal rfl rfl rfl ?_ | refine za1 rfl rfl rfl ?_ | refine zag rfl rfl rfl rfl ?_ | refine zau ?_ | refine zah rfl rfl ?_ | refine zaa rfl rfl ?_ | refine zc2 rfl rfl ?_ | refine zbh rfl rfl ?_ | refine zb0 rfl rfl ?_ | refine zao rfl rfl ?_ | refine zbd rfl rfl ?_ | refine zaf rfl rfl rfl ?_ | refine zax rfl rfl ?_ | refine zan rfl rfl rfl rfl ?_ | refine za9 rfl rfl rfl rfl ?_ | refine zaq rfl rfl rfl rfl ?_ | refine zb9 rfl rfl ?_ | refine zb6 rfl rfl ?_ | refine zae rfl rfl ?_ | refine zba ?_ | refine zas env0_ok rfl rfl rfl ?_ | refine zav (op := .add) rfl rfl rfl ?_ | refine zav (op := .sub) rfl rfl rfl ?_ | refine zb8 rfl rfl rfl ?_ | refine zb7 rfl rfl rfl ?_ | refine zb2 rfl rfl rfl ?_ | refine zb1 rfl rfl rfl ?_ | refine zb3 rfl rfl (by omega) (by assumption) rfl ?_ | refine za1 rfl rfl (decide_eq_true ⟨by omega, by omega⟩) ?_ | refine zay rfl rfl (by omega) (by omega) ?_ | refine zap rfl rfl rfl ?_ | refine zbc rfl ?_ | refine zbb rfl ?_)
  exact zbe ⟨.inr rfl, _, rfl, rfl⟩
 ·have h6 : ¬ n > 6 := by
   have h4 : ¬ ((n : Nat) : Int) > 6 := of_decide_eq_false h4
   omega
  rw [if_neg h6]
  have hn : n ≤ 6 := by omega
  have h64 := zoe hn
  have hsh := znm hn
  repeat (first | refine zai ?_ | refine za0 rfl ?_ | refine zab ?_ | refine zac ?_ | refine zbg ?_ | refine zaj ?_ | refine zat ?_ | refine zbl rfl ?_ | refine zbo rfl ?_ | refine zb5 ?_ | refine zaz ?_ | refine zb4 ?_ | refine za6 ?_ | refine za4 rfl ?_ | refine za2 ?_ | refine za7 ?_ | refine zbs rfl ?_ | refine zbu rfl rfl ?_ | refine zc6 rfl ?_ | refine zad rfl ?_ | refine zam rfl rfl ?_ | refine zar rfl rfl rfl rfl ?_ | refine zak rfl rfl rfl rfl rfl rfl rfl ?_ | refine za5 rfl ?_ | refine zal rfl rfl rfl ?_ | refine za1 rfl rfl rfl ?_ | refine zag rfl rfl rfl rfl ?_ | refine zau ?_ | refine zah rfl rfl ?_ | refine zaa rfl rfl ?_ | refine zc2 rfl rfl ?_ | refine zbh rfl rfl ?_ | refine zb0 rfl rfl ?_ | refine zao rfl rfl ?_ | refine zbd rfl rfl ?_ | refine zaf rfl rfl rfl ?_ | refine zax rfl rfl ?_ | refine zan rfl rfl rfl rfl ?_ | refine za9 rfl rfl rfl rfl ?_ | refine zaq rfl rfl rfl rfl ?_ | refine zb9 rfl rfl ?_ | refine zb6 rfl rfl ?_ | refine zae rfl rfl ?_ | refine zba ?_ | refine zas env0_ok rfl rfl rfl ?_ | refine zav (op := .add) rfl rfl rfl ?_ | refine zav (op := .sub) rfl rfl rfl ?_ | refine zb8 rfl rfl rfl ?_ | refine zb7 rfl rfl rfl ?_ | refine zb2 rfl rfl rfl ?_ | refine zb1 rfl rfl rfl ?_ | refine zb3 rfl rfl (by omega) (by assumption) rfl ?_ | refine za1 rfl rfl (decide_eq_true ⟨by omega, by omega⟩) ?_ | refine zay rfl rfl (by omega) (by omega) ?_ | refine zap rfl rfl rfl ?_ | refine zbc rfl ?_ | refine zbb rfl ?_)
  refine zbn rfl rfl p32 (fun h => Bool.noConfusion (show false = true from h)) ?_
  repeat (first | refine zai ?_ | refine za0 rfl ?_ | refine zab ?_ | refine zac ?_ | refine zbg ?_ | refine zaj ?_ | refine zat ?_ | refine zbl rfl ?_ | refine zbo rfl ?_ | refine zb5 ?_ | refine zaz ?_ | refine zb4 ?_ | refine za6 ?_ | refine za4 rfl ?_ | refine za2 ?_ | refine za7 ?_ | refine zbs rfl ?_ | refine zbu rfl rfl ?_ | refine zc6 rfl ?_ | refine zad rfl ?_ | refine zam rfl rfl ?_ | refine zar rfl rfl rfl rfl ?_ | refine zak rfl rfl rfl rfl rfl rfl rfl ?_ | refine za5 rfl ?_ | refine zal rfl rfl rfl ?_ | refine za1 rfl rfl rfl ?_ | refine zag rfl rfl rfl rfl ?_ | refine zau ?_ | refine zah rfl rfl ?_ | refine zaa rfl rfl ?_ | refine zc2 rfl rfl ?_ | refine zbh rfl rfl ?_ | refine zb0 rfl rfl ?_ | refine zao rfl rfl ?_ | refine zbd rfl rfl ?_ | refine zaf rfl rfl rfl ?_ | refine zax rfl rfl ?_ | refine zan rfl rfl rfl rfl ?_ | refine za9 rfl rfl rfl rfl ?_ | refine zaq rfl rfl rfl rfl ?_ | refine zb9 rfl rfl ?_ | refine zb6 rfl rfl ?_ | refine zae rfl rfl ?_ | refine zba ?_ | refine zas env0_ok rfl rfl rfl ?_ | refine zav (op := .add) rfl rfl rfl ?_ | refine zav (op := .sub) rfl rfl rfl ?_ | refine zb8 rfl rfl rfl ?_ | refine zb7 rfl rfl rfl ?_ | refine zb2 rfl rfl rfl ?_ | refine zb1 rfl rfl rfl ?_ | refine zb3 rfl rfl (by omega) (by assumption) rfl ?_ | refine za1 rfl rfl (decide_eq_true ⟨by omega, by omega⟩) ?_ | refine zay rfl rfl (by omega) (by omega) ?_ | refine zap rfl rfl rfl ?_ | refine zbc rfl ?_ | refine zbb rfl ?_)
  refine zbm rfl rfl rfl (fun hc => ?_) fun hc => ?_
  ·rw [if_neg (bne_iff_ne.1 hc)]
   repeat (first | refine zai ?_ | refine za0 rfl ?_ | refine zab ?_ | refine zac ?_ | refine zbg ?_ | refine zaj ?_ | refine zat ?_ | refine zbl rfl ?_ | refine zbo rfl ?_ | refine zb5 ?_ | refine zaz ?_ | refine zb4 ?_ | refine za6 ?_ | refine za4 rfl ?_ | refine za2 ?_ | refine za7 ?_ | refine zbs rfl ?_ | refine zbu rfl rfl ?_ | refine zc6 rfl ?_ | refine zad rfl ?_ | refine zam rfl rfl ?_ | refine zar rfl rfl rfl rfl ?_ | refine zak rfl rfl rfl rfl rfl rfl rfl ?_ | refine za5 rfl ?_ | refine zal rfl rfl rfl ?_ | refine za1 rfl rfl rfl ?_ | refine zag rfl rfl rfl rfl ?_ | refine zau ?_ | refine zah rfl rfl ?_ | refine zaa rfl rfl ?_ | refine zc2 rfl rfl ?_ | refine zbh rfl rfl ?_ | refine zb0 rfl rfl ?_ | refine zao rfl rfl ?_ | refine zbd rfl rfl ?_ | refine zaf rfl rfl rfl ?_ | refine zax rfl rfl ?_ | refine zan rfl rfl rfl rfl ?_ | refine za9 rfl rfl rfl rfl ?_ | refine zaq rfl rfl rfl rfl ?_ | refine zb9 rfl rfl ?_ | refine zb6 rfl rfl ?_ | refine zae rfl rfl ?_ | refine zba ?_ | refine zas env0_ok rfl rfl rfl ?_ | refine zav (op := .add) rfl rfl rfl ?_ | refine zav (op := .sub) rfl rfl rfl ?_ | refine zb8 rfl rfl rfl ?_ | refine zb7 rfl rfl rfl ?_ | refine zb2 rfl rfl rfl ?_ | refine zb1 rfl rfl rfl ?_ | refine zb3 rfl rfl (by omega) (by assumption) rfl ?_ | refine za1 rfl rfl (decide_eq_true ⟨by omega, by omega⟩) ?_ | refine zay rfl rfl (by omega) (by omega) ?_ | refine zap rfl rfl rfl ?_ | refine zbc rfl ?_ | refine zbb rfl ?_)
   exact zbe ⟨.inr rfl, _, rfl, rfl⟩
  ·have hc : c = 0 := by simpa using hc
   have q53 := p53 hc
   rw [if_pos hc]
   clear p53
   repeat (first | refine zai ?_ | refine za0 rfl ?_ | refine zab ?_ | refine zac ?_ | refine zbg ?_ | refine zaj ?_ | refine zat ?_ | refine zbl rfl ?_ | refine zbo rfl ?_ | refine zb5 ?_ | refine zaz ?_ | refine zb4 ?_ | refine za6 ?_ | refine za4 rfl ?_ | refine za2 ?_ | refine za7 ?_ | refine zbs rfl ?_ | refine zbu rfl rfl ?_ | refine zc6 rfl ?_ | refine zad rfl ?_ | refine zam rfl rfl ?_ | refine zar rfl rfl rfl rfl ?_ | refine zak rfl rfl rfl rfl rfl rfl rfl ?_ | refine za5 rfl ?_ | refine zal rfl rfl rfl ?_ | refine za1 rfl rfl rfl ?_ | refine zag rfl rfl rfl rfl ?_ | refine zau ?_ | refine zah rfl rfl ?_ | refine zaa rfl rfl ?_ | refine zc2 rfl rfl ?_ | refine zbh rfl rfl ?_ | refine zb0 rfl rfl ?_ | refine zao rfl rfl ?_ | refine zbd rfl rfl ?_ | refine zaf rfl rfl rfl ?_ | refine zax rfl rfl ?_ | refine zan rfl rfl rfl rfl ?_ | refine za9 rfl rfl rfl rfl ?_ | refine zaq rfl rfl rfl rfl ?_ | refine zb9 rfl rfl ?_ | refine zb6 rfl rfl ?_ | refine zae rfl rfl ?_ | refine zba ?_ | refine zas env0_ok rfl rfl rfl ?_ | refine zav (op := .add) rfl rfl rfl ?_ | refine zav (op := .sub) rfl rfl rfl ?_ | refine zb8 rfl rfl rfl ?_ | refine zb7 rfl rfl rfl ?_ | refine zb2 rfl rfl rfl ?_ | refine zb1 rfl rfl rfl ?_ | refine zb3 rfl rfl (by omega) (by assumption) rfl ?_ | refine za1 rfl rfl (decide_eq_true ⟨by omega, by omega⟩) ?_ | refine zay rfl rfl (by omega) (by omega) ?_ | refine zap rfl rfl rfl ?_ | refine zbc rfl ?_ | refine zbb rfl ?_)
   refine o_mks rfl rfl ⟨by omega, by omega, by omega, by decide⟩ ?_
   repeat (first | refine zai ?_ | refine za0 rfl ?_ | refine zab ?_ | refine zac ?_ | refine zbg ?_ | refine zaj ?_ | refine zat ?_ | refine zbl rfl ?_ | refine zbo rfl ?_ | refine zb5 ?_ | refine zaz ?_ | refine zb4 ?_ | refine za6 ?_ | refine za4 rfl ?_ | refine za2 ?_ | refine za7 ?_ | refine zbs rfl ?_ | refine zbu rfl rfl ?_ | refine zc6 rfl ?_ | refine zad rfl ?_ | refine zam rfl rfl ?_ | refine zar rfl rfl rfl rfl ?_ | refine zak rfl rfl rfl rfl rfl rfl rfl ?_ | refine za5 rfl ?_ | refine zal rfl rfl rfl ?_ | refine za1 rfl rfl rfl ?_ | refine zag rfl rfl rfl rfl ?_ | refine zau ?_ | refine zah rfl rfl ?_ | refine zaa rfl rfl ?_ | refine zc2 rfl rfl ?_ | refine zbh rfl rfl ?_ | refine zb0 rfl rfl ?_ | refine zao rfl rfl ?_ | refine zbd rfl rfl ?_ | refine zaf rfl rfl rfl ?_ | refine zax rfl rfl ?_ | refine zan rfl rfl rfl rfl ?_ | refine za9 rfl rfl rfl rfl ?_ | refine zaq rfl rfl rfl rfl ?_ | refine zb9 rfl rfl ?_ | refine zb6 rfl rfl ?_ | refine zae rfl rfl ?_ | refine zba ?_ | refine zas env0_ok rfl rfl rfl ?_ | refine zav (op := .add) rfl rfl rfl ?_ | refine zav (op := .sub) rfl rfl rfl ?_ | refine zb8 rfl rfl rfl ?_ | refine zb7 rfl rfl rfl ?_ | refine zb2 rfl rfl rfl ?_ | refine zb1 rfl rfl rfl ?_ | refine zb3 rfl rfl (by omega) (by assumption) rfl ?_ | refine za1 rfl rfl (decide_eq_true ⟨by omega, by omega⟩) ?_ | refine zay rfl rfl (by omega) (by omega) ?_ | refine zap rfl rfl rfl ?_ | refine zbc rfl ?_ | refine zbb rfl ?_)
   refine zav rfl rfl hsh ?_
   repeat (first | refine zai ?_ | refine za0 rfl ?_ | refine zab ?_ | refine zac ?_ | refine zbg ?_ | refine zaj ?_ | refine zat ?_ | refine zbl rfl ?_ | refine zbo rfl ?_ | refine zb5 ?_ | refine zaz ?_ | refine zb4 ?_ | refine za6 ?_ | refine za4 rfl ?_ | refine za2 ?_ | refine za7 ?_ | refine zbs rfl ?_ | refine zbu rfl rfl ?_ | refine zc6 rfl ?_ | refine zad rfl ?_ | refine zam rfl rfl ?_ | refine zar rfl rfl rfl rfl ?_ | refine zak rfl rfl rfl rfl rfl rfl rfl ?_ | refine za5 rfl ?_ | refine zal rfl rfl rfl ?_ | refine za1 rfl rfl rfl ?_ | refine zag rfl rfl rfl rfl ?_ | refine zau ?_ | refine zah rfl rfl ?_ | refine zaa rfl rfl ?_ | refine zc2 rfl rfl ?_ | refine zbh rfl rfl ?_ | refine zb0 rfl rfl ?_ | refine zao rfl rfl ?_ | refine zbd rfl rfl ?_ | refine zaf rfl rfl rfl ?_ | refine zax rfl rfl ?_ | refine zan rfl rfl rfl rfl ?_ | refine za9 rfl rfl rfl rfl ?_ | refine zaq rfl rfl rfl rfl ?_ | refine zb9 rfl rfl ?_ | refine zb6 rfl rfl ?_ | refine zae rfl rfl ?_ | refine zba ?_ | refine zas env0_ok rfl rfl rfl ?_ | refine zav (op := .add) rfl rfl rfl ?_ | refine zav (op := .sub) rfl rfl rfl ?_ | refine zb8 rfl rfl rfl ?_ | refine zb7 rfl rfl rfl ?_ | refine zb2 rfl rfl rfl ?_ | refine zb1 rfl rfl rfl ?_ | refine zb3 rfl rfl (by omega) (by assumption) rfl ?_ | refine za1 rfl rfl (decide_eq_true ⟨by omega, by omega⟩) ?_ | refine zay rfl rfl (by omega) (by omega) ?_ | refine zap rfl rfl rfl ?_ | refine zbc rfl ?_ | refine zbb rfl ?_)
   refine ze6 [(some (0, 0), [.int .i64 0, .int .u64 0]), (some (1, 1), [.int .i64 (n : Nat), cU 0#64]), (some (2, 2), zfm n [AV.bool false])] [] [(1, .int .i64 (n : Nat)), (2, .vptr (cX (.nd op ix args))), (4, .mptr 0 0 0), (7, .mptr 1 0 0), (8, .ms 2 0 1 0 n (some n)), (30, .int .i64 ((2 ^ n : Nat) : Int)), (31, .int .i64 0)] rfl .nil (.cons rfl (.cons (.same rfl) (.cons (.same rfl) .nil)) (.cons rfl (.cons (.same rfl) (.cons (.same rfl) .nil)) (.cons rfl (.keep (by rw [zir]; exact zi7 _)) .nil))) (.cons rfl (.same rfl) (.cons rfl (.same rfl) (.cons rfl (.mptr rfl) (.cons rfl (.mptr rfl) (.cons rfl (.ms rfl) (.cons rfl (.same rfl) (.cons rfl (.same rfl) .nil))))))) ?_
   refine ze5 (fun mm S => ∃ (k : Nat) (w : List Bool), mm = 2 ^ n - k ∧ k ≤ 2 ^ n ∧ w.length = n ∧ S = st 59 [(1, .int .i64 (n : Nat)), (2, .vptr (cX (.nd op ix args))), (4, .mptr 0 0 0), (7, .mptr 1 0 0), (8, .ms 2 0 1 0 n (some n)), (30, .int .i64 ((2 ^ n : Nat) : Int)), (31, .int .i64 (k : Nat))] [(0, 0, .cells [.int .i64 0, .int .u64 0]), (1, 0, .cells [.int .i64 (n : Nat), cU (T k)]), (2, 0, .cells (w.map AV.bool))] 3 1) (2 ^ n)
    (zbq (.cons rfl (.cons rfl (.cons rfl (.cons rfl (.cons rfl (.cons rfl (.cons rfl .nil)))))))) ⟨0, List.replicate n false, rfl, Nat.zero_le _, List.length_replicate, by rw [hT0, ← zir]; rfl⟩ ?_
   rintro mm S ⟨k, w, rfl, hk, hw, rfl⟩
   unfold b20_0
   repeat (first | refine zai ?_ | refine za0 rfl ?_ | refine zab ?_ | refine zac ?_ | refine zbg ?_ | refine zaj ?_ | refine zat ?_ | refine zbl rfl ?_ | refine zbo rfl ?_ | refine zb5 ?_ | refine zaz ?_ | refine zb4 ?_ | refine za6 ?_ | refine za4 rfl ?_ | refine za2 ?_ | refine za7 ?_ | refine zbs rfl ?_ | refine zbu rfl rfl ?_ | refine zc6 rfl ?_ | refine zad rfl ?_ | refine zam rfl rfl ?_ | refine zar rfl rfl rfl rfl ?_ | refine zak rfl rfl rfl rfl rfl rfl rfl ?_ | refine za5 rfl ?_ | refine zal rfl rfl rfl ?_ | refine za1 rfl rfl rfl ?_ | refine zag rfl rfl rfl rfl ?_ | refine zau ?_ | refine zah rfl rfl ?_ | refine zaa rfl rfl ?_ | refine zc2 rfl rfl ?_ | refine zbh rfl rfl ?_ | refine zb0 rfl rfl ?_ | refine zao rfl rfl ?_ | refine zbd rfl rfl ?_ | refine zaf rfl rfl rfl ?_ | refine zax rfl rfl ?_ | refine zan rfl rfl rfl rfl ?_ | refine za9 rfl rfl rfl rfl ?_ | refine zaq rfl rfl rfl rfl ?_ | refine zb9 rfl rfl ?_ | refine zb6 rfl rfl ?_ | refine zae rfl rfl ?_ | refine zba ?_ | refine zas env0_ok rfl rfl rfl ?_ | refine zav (op := .add) rfl rfl rfl ?_ | refine zav (op := .sub) rfl rfl rfl ?_ | refine zb8 rfl rfl rfl ?_ | refine zb7 rfl rfl rfl ?_ | refine zb2 rfl rfl rfl ?_ | refine zb1 rfl rfl rfl ?_ | refine zb3 rfl rfl (by omega) (by assumption) rfl ?_ | refine za1 rfl rfl (decide_eq_true ⟨by omega, by omega⟩) ?_ | refine zay rfl rfl (by omega) (by omega) ?_ | refine zap rfl rfl rfl ?_ | refine zbc rfl ?_ | refine zbb rfl ?_)
   refine zbm rfl rfl rfl (fun h4 => ?_) fun h4 => ?_
   ·have hlt : k < 2 ^ n := by
     have h4 : ((k : Nat) : Int) < ((2 ^ n : Nat) : Int) := of_decide_eq_true h4
     omega
    have p53 := q53 k
    have hTk := hT k
    repeat (first | refine zai ?_ | refine za0 rfl ?_ | refine zab ?_ | refine zac ?_ | refine zbg ?_ | refine zaj ?_ | refine zat ?_ | refine zbl rfl ?_ | refine zbo rfl ?_ | refine zb5 ?_ | refine zaz ?_ | refine zb4 ?_ | refine za6 ?_ | refine za4 rfl ?_ | refine za2 ?_ | refine za7 ?_ | refine zbs rfl ?_ | refine zbu rfl rfl ?_ | refine zc6 rfl ?_ | refine zad rfl ?_ | refine zam rfl rfl ?_ | refine zar rfl rfl rfl rfl ?_ | refine zak rfl rfl rfl rfl rfl rfl rfl ?_ | refine za5 rfl ?_ | refine zal rfl rfl rfl ?_ | refine za1 rfl rfl rfl ?_ | refine zag rfl rfl rfl rfl ?_ | refine zau ?_ | refine zah rfl rfl ?_ | refine zaa rfl rfl ?_ | refine zc2 rfl rfl ?_ | refine zbh rfl rfl ?_ | refine zb0 rfl rfl ?_ | refine zao rfl rfl ?_ | refine zbd rfl rfl ?_ | refine zaf rfl rfl rfl ?_ | refine zax rfl rfl ?_ | refine zan rfl rfl rfl rfl ?_ | refine za9 rfl rfl rfl rfl ?_ | refine zaq rfl rfl rfl rfl ?_ | refine zb9 rfl rfl ?_ | refine zb6 rfl rfl ?_ | refine zae rfl rfl ?_ | refine zba ?_ | refine zas env0_ok rfl rfl rfl ?_ | refine zav (op := .add) rfl rfl rfl ?_ | refine zav (op := .sub) rfl rfl rfl ?_ | refine zb8 rfl rfl rfl ?_ | refine zb7 rfl rfl rfl ?_ | refine zb2 rfl rfl rfl ?_ | refine zb1 rfl rfl rfl ?_ | refine zb3 rfl rfl (by omega) (by assumption) rfl ?_ | refine za1 rfl rfl (decide_eq_true ⟨by omega, by omega⟩) ?_ | refine zay rfl rfl (by omega) (by omega) ?_ | refine zap rfl rfl rfl ?_ | refine zbc rfl ?_ | refine zbb rfl ?_)
    refine ze5 (fun mm S => ∃ (i : Nat) (w : List Bool), mm = n - i ∧ i ≤ n ∧ w.length = n ∧ (∀ j, j < i → w[j]? = some (k.testBit j)) ∧ S = st 59 [(1, .int .i64 (n : Nat)), (2, .vptr (cX (.nd op ix args))), (4, .mptr 0 0 0), (7, .mptr 1 0 0), (8, .ms 2 0 1 0 n (some n)), (30, .int .i64 ((2 ^ n : Nat) : Int)), (31, .int .i64 (k : Nat)), (9, .int .i64 (k : Nat)), (35, .int .i64 (n : Nat)), (36, .int .i64 (i : Nat))] [(0, 0, .cells [.int .i64 0, .int .u64 0]), (1, 0, .cells [.int .i64 (n : Nat), cU (T k)]), (2, 0, .cells (w.map AV.bool))] 3 1) n
     (zbq (.cons rfl (.cons rfl (.cons rfl (.cons rfl (.cons rfl (.cons rfl (.cons rfl (.cons rfl (.cons rfl (.cons rfl .nil))))))))))) ⟨0, w, rfl, Nat.zero_le _, hw, fun j h => absurd h (Nat.not_lt_zero _), rfl⟩ ?_
    rintro mm S ⟨i, w, rfl, hi, hw, hpre, rfl⟩
    unfold b20_2
    repeat (first | refine zai ?_ | refine za0 rfl ?_ | refine zab ?_ | refine zac ?_ | refine zbg ?_ | refine zaj ?_ | refine zat ?_ | refine zbl rfl ?_ | refine zbo rfl ?_ | refine zb5 ?_ | refine zaz ?_ | refine zb4 ?_ | refine za6 ?_ | refine za4 rfl ?_ | refine za2 ?_ | refine za7 ?_ | refine zbs rfl ?_ | refine zbu rfl rfl ?_ | refine zc6 rfl ?_ | refine zad rfl ?_ | refine zam rfl rfl ?_ | refine zar rfl rfl rfl rfl ?_ | refine zak rfl rfl rfl rfl rfl rfl rfl ?_ | refine za5 rfl ?_ | refine zal rfl rfl rfl ?_ | refine za1 rfl rfl rfl ?_ | refine zag rfl rfl rfl rfl ?_ | refine zau ?_ | refine zah rfl rfl ?_ | refine zaa rfl rfl ?_ | refine zc2 rfl rfl ?_ | refine zbh rfl rfl ?_ | refine zb0 rfl rfl ?_ | refine zao rfl rfl ?_ | refine zbd rfl rfl ?_ | refine zaf rfl rfl rfl ?_ | refine zax rfl rfl ?_ | refine zan rfl rfl rfl rfl ?_ | refine za9 rfl rfl rfl rfl ?_ | refine zaq rfl rfl rfl rfl ?_ | refine zb9 rfl rfl ?_ | refine zb6 rfl rfl ?_ | refine zae rfl rfl ?_ | refine zba ?_ | refine zas env0_ok rfl rfl rfl ?_ | refine zav (op := .add) rfl rfl rfl ?_ | refine zav (op := .sub) rfl rfl rfl ?_ | refine zb8 rfl rfl rfl ?_ | refine zb7 rfl rfl rfl ?_ | refine zb2 rfl rfl rfl ?_ | refine zb1 rfl rfl rfl ?_ | refine zb3 rfl rfl (by omega) (by assumption) rfl ?_ | refine za1 rfl rfl (decide_eq_true ⟨by omega, by omega⟩) ?_ | refine zay rfl rfl (by omega) (by omega) ?_ | refine zap rfl rfl rfl ?_ | refine zbc rfl ?_ | refine zbb rfl ?_)
    refine zbm rfl rfl rfl (fun h5 => ?_) fun h5 => ?_
    ·have hit : i < n := by
      have h5 : ((i : Nat) : Int) < ((n : Nat) : Int) := of_decide_eq_true h5
      omega
     repeat (first | refine zai ?_ | refine za0 rfl ?_ | refine zab ?_ | refine zac ?_ | refine zbg ?_ | refine zaj ?_ | refine zat ?_ | refine zbl rfl ?_ | refine zbo rfl ?_ | refine zb5 ?_ | refine zaz ?_ | refine zb4 ?_ | refine za6 ?_ | refine za4 rfl ?_ | refine za2 ?_ | refine za7 ?_ | refine zbs rfl ?_ | refine zbu rfl rfl ?_ | refine zc6 rfl ?_ | refine zad rfl ?_ | refine zam rfl rfl ?_ | refine zar rfl rfl rfl rfl ?_ | refine zak rfl rfl rfl rfl rfl rfl rfl ?_ | refine za5 rfl ?_ | refine zal rfl rfl rfl ?_ | refine za1 rfl rfl rfl ?_ | refine zag rfl rfl rfl rfl ?_ | refine zau ?_ | refine zah rfl rfl ?_ | refine zaa rfl rfl ?_ | refine zc2 rfl rfl ?_ | refine zbh rfl rfl ?_ | refine zb0 rfl rfl ?_ | refine zao rfl rfl ?_ | refine zbd rfl rfl ?_ | refine zaf rfl rfl rfl ?_ | refine zax rfl rfl ?_ | refine zan rfl rfl rfl rfl ?_ | refine za9 rfl rfl rfl rfl ?_ | refine zaq rfl rfl rfl rfl ?_ | refine zb9 rfl rfl ?_ | refine zb6 rfl rfl ?_ | refine zae rfl rfl ?_ | refine zba ?_ | refine zas env0_ok rfl rfl rfl ?_ | refine zav (op := .add) rfl rfl rfl ?_ | refine zav (op := .sub) rfl rfl rfl ?_ | refine zb8 rfl rfl rfl ?_ | refine zb7 rfl rfl rfl ?_ | refine zb2 rfl rfl rfl ?_ | refine zb1 rfl rfl rfl ?_ | refine zb3 rfl rfl (by omega) (by assumption) rfl ?_ | refine za1 rfl rfl (decide_eq_true ⟨by omega, by omega⟩) ?_ | refine zay rfl rfl (by omega) (by omega) ?_ | refine zap rfl rfl rfl ?_ | refine zbc rfl ?_ | refine zbb rfl ?_)
     refine zav rfl rfl (bin_shrI (by omega)) ?_
     refine zav rfl rfl (bin_and1 (shr_lt i (by omega))) ?_
     refine zav rfl rfl (show _ = some (AV.bool (k.testBit i)) from congrArg (fun b => some (AV.bool b)) (shr_bit k i)) ?_
     refine zay rfl rfl (by omega) (by omega) ?_
     rw [show 0 + ((i : Nat) : Int).toNat * 1 = i from by simp]
     refine o_storeg rfl rfl rfl rfl (by rw [List.length_map, hw]; exact hit) rfl ?_
     rw [← List.map_set]
     have hw2 : (w.set i (k.testBit i)).length = n := by rw [List.length_set, hw]
     have hpre2 : ∀ j, j < i + 1 → (w.set i (k.testBit i))[j]? = some (k.testBit j) := fun j hj => by
      by_cases e : i = j
      ·subst e
       rw [List.getElem?_set_self (by omega)]
      ·rw [List.getElem?_set_ne e]
       exact hpre j (by omega)
     generalize w.set i (k.testBit i) = w2 at *
     repeat (first | refine zai ?_ | refine za0 rfl ?_ | refine zab ?_ | refine zac ?_ | refine zbg ?_ | refine zaj ?_ | refine zat ?_ | refine zbl rfl ?_ | refine zbo rfl ?_ | refine zb5 ?_ | refine zaz ?_ | refine zb4 ?_ | refine za6 ?_ | refine za4 rfl ?_ | refine za2 ?_ | refine za7 ?_ | refine zbs rfl ?_ | refine zbu rfl rfl ?_ | refine zc6 rfl ?_ | refine zad rfl ?_ | refine zam rfl rfl ?_ | refine zar rfl rfl rfl rfl ?_ | refine zak rfl rfl rfl rfl rfl rfl rfl ?_ | refine za5 rfl ?_ | refine zal rfl rfl rfl ?_ | refine za1 rfl rfl rfl ?_ | refine zag rfl rfl rfl rfl ?_ | refine zau ?_ | refine zah rfl rfl ?_ | refine zaa rfl rfl ?_ | refine zc2 rfl rfl ?_ | refine zbh rfl rfl ?_ | refine zb0 rfl rfl ?_ | refine zao rfl rfl ?_ | refine zbd rfl rfl ?_ | refine zaf rfl rfl rfl ?_ | refine zax rfl rfl ?_ | refine zan rfl rfl rfl rfl ?_ | refine za9 rfl rfl rfl rfl ?_ | refine zaq rfl rfl rfl rfl ?_ | refine zb9 rfl rfl ?_ | refine zb6 rfl rfl ?_ | refine zae rfl rfl ?_ | refine zba ?_ | refine zas env0_ok rfl rfl rfl ?_ | refine zav (op := .add) rfl rfl rfl ?_ | refine zav (op := .sub) rfl rfl rfl ?_ | refine zb8 rfl rfl rfl ?_ | refine zb7 rfl rfl rfl ?_ | refine zb2 rfl rfl rfl ?_ | refine zb1 rfl rfl rfl ?_ | refine zb3 rfl rfl (by omega) (by assumption) rfl ?_ | refine za1 rfl rfl (decide_eq_true ⟨by omega, by omega⟩) ?_ | refine zay rfl rfl (by omega) (by omega) ?_ | refine zap rfl rfl rfl ?_ | refine zbc rfl ?_ | refine zbb rfl ?_)
     rw [zc8 i (by omega)]
     exact zcs (show n - (i + 1) < n - i by omega) (zbq (.cons rfl (.cons rfl (.cons rfl (.cons rfl (.cons rfl (.cons rfl (.cons rfl (.cons rfl (.cons rfl (.cons rfl .nil))))))))))) ⟨i + 1, w2, rfl, hit, hw2, hpre2, rfl⟩
    ·have hie : i = n := by
      have h5 : ¬ ((i : Nat) : Int) < ((n : Nat) : Int) := of_decide_eq_false h5
      omega
     rw [hie] at hpre
     obtain rfl := eq_ptB hw hpre
     generalize ptB n k = pt at *
     repeat (first | refine zai ?_ | refine za0 rfl ?_ | refine zab ?_ | refine zac ?_ | refine zbg ?_ | refine zaj ?_ | refine zat ?_ | refine zbl rfl ?_ | refine zbo rfl ?_ | refine zb5 ?_ | refine zaz ?_ | refine zb4 ?_ | refine za6 ?_ | refine za4 rfl ?_ | refine za2 ?_ | refine za7 ?_ | refine zbs rfl ?_ | refine zbu rfl rfl ?_ | refine zc6 rfl ?_ | refine zad rfl ?_ | refine zam rfl rfl ?_ | refine zar rfl rfl rfl rfl ?_ | refine zak rfl rfl rfl rfl rfl rfl rfl ?_ | refine za5 rfl ?_ | refine zal rfl rfl rfl ?_ | refine za1 rfl rfl rfl ?_ | refine zag rfl rfl rfl rfl ?_ | refine zau ?_ | refine zah rfl rfl ?_ | refine zaa rfl rfl ?_ | refine zc2 rfl rfl ?_ | refine zbh rfl rfl ?_ | refine zb0 rfl rfl ?_ | refine zao rfl rfl ?_ | refine zbd rfl rfl ?_ | refine zaf rfl rfl rfl ?_ | refine zax rfl rfl ?_ | refine zan rfl rfl rfl rfl ?_ | refine za9 rfl rfl rfl rfl ?_ | refine zaq rfl rfl rfl rfl ?_ | refine zb9 rfl rfl ?_ | refine zb6 rfl rfl ?_ | refine zae rfl rfl ?_ | refine zba ?_ | refine zas env0_ok rfl rfl rfl ?_ | refine zav (op := .add) rfl rfl rfl ?_ | refine zav (op := .sub) rfl rfl rfl ?_ | refine zb8 rfl rfl rfl ?_ | refine zb7 rfl rfl rfl ?_ | refine zb2 rfl rfl rfl ?_ | refine zb1 rfl rfl rfl ?_ | refine zb3 rfl rfl (by omega) (by assumption) rfl ?_ | refine za1 rfl rfl (decide_eq_true ⟨by omega, by omega⟩) ?_ | refine zay rfl rfl (by omega) (by omega) ?_ | refine zap rfl rfl rfl ?_ | refine zbc rfl ?_ | refine zbb rfl ?_)
     refine zfs ?_
     repeat (first | refine zai ?_ | refine za0 rfl ?_ | refine zab ?_ | refine zac ?_ | refine zbg ?_ | refine zaj ?_ | refine zat ?_ | refine zbl rfl ?_ | refine zbo rfl ?_ | refine zb5 ?_ | refine zaz ?_ | refine zb4 ?_ | refine za6 ?_ | refine za4 rfl ?_ | refine za2 ?_ | refine za7 ?_ | refine zbs rfl ?_ | refine zbu rfl rfl ?_ | refine zc6 rfl ?_ | refine zad rfl ?_ | refine zam rfl rfl ?_ | refine zar rfl rfl rfl rfl ?_ | refine zak rfl rfl rfl rfl rfl rfl rfl ?_ | refine za5 rfl ?_ | refine zal rfl rfl rfl ?_ | refine za1 rfl rfl rfl ?_ | refine zag rfl rfl rfl rfl ?_ | refine zau ?_ | refine zah rfl rfl ?_ | refine zaa rfl rfl ?_ | refine zc2 rfl rfl ?_ | refine zbh rfl rfl ?_ | refine zb0 rfl rfl ?_ | refine zao rfl rfl ?_ | refine zbd rfl rfl ?_ | refine zaf rfl rfl rfl ?_ | refine zax rfl rfl ?_ | refine zan rfl rfl rfl rfl ?_ | refine za9 rfl rfl rfl rfl ?_ | refine zaq rfl rfl rfl rfl ?_ | refine zb9 rfl rfl ?_ | refine zb6 rfl rfl ?_ | refine zae rfl rfl ?_ | refine zba ?_ | refine zas env0_ok rfl rfl rfl ?_ | refine zav (op := .add) rfl rfl rfl ?_ | refine zav (op := .sub) rfl rfl rfl ?_ | refine zb8 rfl rfl rfl ?_ | refine zb7 rfl rfl rfl ?_ | refine zb2 rfl rfl rfl ?_ | refine zb1 rfl rfl rfl ?_ | refine zb3 rfl rfl (by omega) (by assumption) rfl ?_ | refine za1 rfl rfl (decide_eq_true ⟨by omega, by omega⟩) ?_ | refine zay rfl rfl (by omega) (by omega) ?_ | refine zap rfl rfl rfl ?_ | refine zbc rfl ?_ | refine zbb rfl ?_)
     refine zbn rfl (pair_eq rfl (zps (d := 6) pt hw rfl)) p53 (fun _ => rfl) ?_
     repeat (first | refine zai ?_ | refine za0 rfl ?_ | refine zab ?_ | refine zac ?_ | refine zbg ?_ | refine zaj ?_ | refine zat ?_ | refine zbl rfl ?_ | refine zbo rfl ?_ | refine zb5 ?_ | refine zaz ?_ | refine zb4 ?_ | refine za6 ?_ | refine za4 rfl ?_ | refine za2 ?_ | refine za7 ?_ | refine zbs rfl ?_ | refine zbu rfl rfl ?_ | refine zc6 rfl ?_ | refine zad rfl ?_ | refine zam rfl rfl ?_ | refine zar rfl rfl rfl rfl ?_ | refine zak rfl rfl rfl rfl rfl rfl rfl ?_ | refine za5 rfl ?_ | refine zal rfl rfl rfl ?_ | refine za1 rfl rfl rfl ?_ | refine zag rfl rfl rfl rfl ?_ | refine zau ?_ | refine zah rfl rfl ?_ | refine zaa rfl rfl ?_ | refine zc2 rfl rfl ?_ | refine zbh rfl rfl ?_ | refine zb0 rfl rfl ?_ | refine zao rfl rfl ?_ | refine zbd rfl rfl ?_ | refine zaf rfl rfl rfl ?_ | refine zax rfl rfl ?_ | refine zan rfl rfl rfl rfl ?_ | refine za9 rfl rfl rfl rfl ?_ | refine zaq rfl rfl rfl rfl ?_ | refine zb9 rfl rfl ?_ | refine zb6 rfl rfl ?_ | refine zae rfl rfl ?_ | refine zba ?_ | refine zas env0_ok rfl rfl rfl ?_ | refine zav (op := .add) rfl rfl rfl ?_ | refine zav (op := .sub) rfl rfl rfl ?_ | refine zb8 rfl rfl rfl ?_ | refine zb7 rfl rfl rfl ?_ | refine zb2 rfl rfl rfl ?_ | refine zb1 rfl rfl rfl ?_ | refine zb3 rfl rfl (by omega) (by assumption) rfl ?_ | refine za1 rfl rfl (decide_eq_true ⟨by omega, by omega⟩) ?_ | refine zay rfl rfl (by omega) (by omega) ?_ | refine zap rfl rfl rfl ?_ | refine zbc rfl ?_ | refine zbb rfl ?_)
     generalize B k = bk at *
     cases bk with
     | false =>
      rw [if_neg Bool.false_ne_true] at hTk
      repeat (first | refine zai ?_ | refine za0 rfl ?_ | refine zab ?_ | refine zac ?_ | refine zbg ?_ | refine zaj ?_ | refine zat ?_ | refine zbl rfl ?_ | refine zbo rfl ?_ | refine zb5 ?_ | refine zaz ?_ | refine zb4 ?_ | refine za6 ?_ | refine za4 rfl ?_ | refine za2 ?_ | refine za7 ?_ | refine zbs rfl ?_ | refine zbu rfl rfl ?_ | refine zc6 rfl ?_ | refine zad rfl ?_ | refine zam rfl rfl ?_ | refine zar rfl rfl rfl rfl ?_ | refine zak rfl rfl rfl rfl rfl rfl rfl ?_ | refine za5 rfl ?_ | refine zal rfl rfl rfl ?_ | refine za1 rfl rfl rfl ?_ | refine zag rfl rfl rfl rfl ?_ | refine zau ?_ | refine zah rfl rfl ?_ | refine zaa rfl rfl ?_ | refine zc2 rfl rfl ?_ | refine zbh rfl rfl ?_ | refine zb0 rfl rfl ?_ | refine zao rfl rfl ?_ | refine zbd rfl rfl ?_ | refine zaf rfl rfl rfl ?_ | refine zax rfl rfl ?_ | refine zan rfl rfl rfl rfl ?_ | refine za9 rfl rfl rfl rfl ?_ | refine zaq rfl rfl rfl rfl ?_ | refine zb9 rfl rfl ?_ | refine zb6 rfl rfl ?_ | refine zae rfl rfl ?_ | refine zba ?_ | refine zas env0_ok rfl rfl rfl ?_ | refine zav (op := .add) rfl rfl rfl ?_ | refine zav (op := .sub) rfl rfl rfl ?_ | refine zb8 rfl rfl rfl ?_ | refine zb7 rfl rfl rfl ?_ | refine zb2 rfl rfl rfl ?_ | refine zb1 rfl rfl rfl ?_ | refine zb3 rfl rfl (by omega) (by assumption) rfl ?_ | refine za1 rfl rfl (decide_eq_true ⟨by omega, by omega⟩) ?_ | refine zay rfl rfl (by omega) (by omega) ?_ | refine zap rfl rfl rfl ?_ | refine zbc rfl ?_ | refine zbb rfl ?_)
      rw [zc8 k (by omega)]
      exact zcs (show 2 ^ n - (k + 1) < 2 ^ n - k by omega) (zbq (.cons rfl (.cons rfl (.cons rfl (.cons rfl (.cons rfl (.cons rfl (.cons rfl .nil)))))))) ⟨k + 1, pt, rfl, hlt, hw, by rw [hTk]⟩
     | true =>
      rw [if_pos rfl] at hTk
      repeat (first | refine zai ?_ | refine za0 rfl ?_ | refine zab ?_ | refine zac ?_ | refine zbg ?_ | refine zaj ?_ | refine zat ?_ | refine zbl rfl ?_ | refine zbo rfl ?_ | refine zb5 ?_ | refine zaz ?_ | refine zb4 ?_ | refine za6 ?_ | refine za4 rfl ?_ | refine za2 ?_ | refine za7 ?_ | refine zbs rfl ?_ | refine zbu rfl rfl ?_ | refine zc6 rfl ?_ | refine zad rfl ?_ | refine zam rfl rfl ?_ | refine zar rfl rfl rfl rfl ?_ | refine zak rfl rfl rfl rfl rfl rfl rfl ?_ | refine za5 rfl ?_ | refine zal rfl rfl rfl ?_ | refine za1 rfl rfl rfl ?_ | refine zag rfl rfl rfl rfl ?_ | refine zau ?_ | refine zah rfl rfl ?_ | refine zaa rfl rfl ?_ | refine zc2 rfl rfl ?_ | refine zbh rfl rfl ?_ | refine zb0 rfl rfl ?_ | refine zao rfl rfl ?_ | refine zbd rfl rfl ?_ | refine zaf rfl rfl rfl ?_ | refine zax rfl rfl ?_ | refine zan rfl rfl rfl rfl ?_ | refine za9 rfl rfl rfl rfl ?_ | refine zaq rfl rfl rfl rfl ?_ | refine zb9 rfl rfl ?_ | refine zb6 rfl rfl ?_ | refine zae rfl rfl ?_ | refine zba ?_ | refine zas env0_ok rfl rfl rfl ?_ | refine zav (op := .add) rfl rfl rfl ?_ | refine zav (op := .sub) rfl rfl rfl ?_ | refine zb8 rfl rfl rfl ?_ | refine zb7 rfl rfl rfl ?_ | refine zb2 rfl rfl rfl ?_ | refine zb1 rfl rfl rfl ?_ | refine zb3 rfl rfl (by omega) (by assumption) rfl ?_ | refine za1 rfl rfl (decide_eq_true ⟨by omega, by omega⟩) ?_ | refine zay rfl rfl (by omega) (by omega) ?_ | refine zap rfl rfl rfl ?_ | refine zbc rfl ?_ | refine zbb rfl ?_)
      refine zav rfl rfl (znn 1#64 (n := k) (by omega)) ?_
      refine zav rfl rfl (bin_or _ _) ?_
      rw [← hTk]
      repeat (first | refine zai ?_ | refine za0 rfl ?_ | refine zab ?_ | refine zac ?_ | refine zbg ?_ | refine zaj ?_ | refine zat ?_ | refine zbl rfl ?_ | refine zbo rfl ?_ | refine zb5 ?_ | refine zaz ?_ | refine zb4 ?_ | refine za6 ?_ | refine za4 rfl ?_ | refine za2 ?_ | refine za7 ?_ | refine zbs rfl ?_ | refine zbu rfl rfl ?_ | refine zc6 rfl ?_ | refine zad rfl ?_ | refine zam rfl rfl ?_ | refine zar rfl rfl rfl rfl ?_ | refine zak rfl rfl rfl rfl rfl rfl rfl ?_ | refine za5 rfl ?_ | refine zal rfl rfl rfl ?_ | refine za1 rfl rfl rfl ?_ | refine zag rfl rfl rfl rfl ?_ | refine zau ?_ | refine zah rfl rfl ?_ | refine zaa rfl rfl ?_ | refine zc2 rfl rfl ?_ | refine zbh rfl rfl ?_ | refine zb0 rfl rfl ?_ | refine zao rfl rfl ?_ | refine zbd rfl rfl ?_ | refine zaf rfl rfl rfl ?_ | refine zax rfl rfl ?_ | refine zan rfl rfl rfl rfl ?_ | refine za9 rfl rfl rfl rfl ?_ | refine zaq rfl rfl rfl rfl ?_ | refine zb9 rfl rfl ?_ | refine zb6 rfl rfl ?_ | refine zae rfl rfl ?_ | refine zba ?_ | refine zas env0_ok rfl rfl rfl ?_ | refine zav (op := .add) rfl rfl rfl ?_ | refine zav (op := .sub) rfl rfl rfl ?_ | refine zb8 rfl rfl rfl ?_ | refine zb7 rfl rfl rfl ?_ | refine zb2 rfl rfl rfl ?_ | refine zb1 rfl rfl rfl ?_ | refine zb3 rfl rfl (by omega) (by assumption) rfl ?_ | refine za1 rfl rfl (decide_eq_true ⟨by omega, by omega⟩) ?_ | refine zay rfl rfl (by omega) (by omega) ?_ | refine zap rfl rfl rfl ?_ | refine zbc rfl ?_ | refine zbb rfl ?_)
      rw [zc8 k (by omega)]
      exact zcs (show 2 ^ n - (k + 1) < 2 ^ n - k by omega) (zbq (.cons rfl (.cons rfl (.cons rfl (.cons rfl (.cons rfl (.cons rfl (.cons rfl .nil)))))))) ⟨k + 1, pt, rfl, hlt, hw, rfl⟩
   ·have hi2 : k = 2 ^ n := by
     have h4 : ¬ ((k : Nat) : Int) < ((2 ^ n : Nat) : Int) := of_decide_eq_false h4
     omega
    subst hi2
    repeat (first | refine zai ?_ | refine za0 rfl ?_ | refine zab ?_ | refine zac ?_ | refine zbg ?_ | refine zaj ?_ | refine zat ?_ | refine zbl rfl ?_ | refine zbo rfl ?_ | refine zb5 ?_ | refine zaz ?_ | refine zb4 ?_ | refine za6 ?_ | refine za4 rfl ?_ | refine za2 ?_ | refine za7 ?_ | refine zbs rfl ?_ | refine zbu rfl rfl ?_ | refine zc6 rfl ?_ | refine zad rfl ?_ | refine zam rfl rfl ?_ | refine zar rfl rfl rfl rfl ?_ | refine zak rfl rfl rfl rfl rfl rfl rfl ?_ | refine za5 rfl ?_ | refine zal rfl rfl rfl ?_ | refine za1 rfl rfl rfl ?_ | refine zag rfl rfl rfl rfl ?_ | refine zau ?_ | refine zah rfl rfl ?_ | refine zaa rfl rfl ?_ | refine zc2 rfl rfl ?_ | refine zbh rfl rfl ?_ | refine zb0 rfl rfl ?_ | refine zao rfl rfl ?_ | refine zbd rfl rfl ?_ | refine zaf rfl rfl rfl ?_ | refine zax rfl rfl ?_ | refine zan rfl rfl rfl rfl ?_ | refine za9 rfl rfl rfl rfl ?_ | refine zaq rfl rfl rfl rfl ?_ | refine zb9 rfl rfl ?_ | refine zb6 rfl rfl ?_ | refine zae rfl rfl ?_ | refine zba ?_ | refine zas env0_ok rfl rfl rfl ?_ | refine zav (op := .add) rfl rfl rfl ?_ | refine zav (op := .sub) rfl rfl rfl ?_ | refine zb8 rfl rfl rfl ?_ | refine zb7 rfl rfl rfl ?_ | refine zb2 rfl rfl rfl ?_ | refine zb1 rfl rfl rfl ?_ | refine zb3 rfl rfl (by omega) (by assumption) rfl ?_ | refine za1 rfl rfl (decide_eq_true ⟨by omega, by omega⟩) ?_ | refine zay rfl rfl (by omega) (by omega) ?_ | refine zap rfl rfl rfl ?_ | refine zbc rfl ?_ | refine zbb rfl ?_)
    refine zfs ?_
    repeat (first | refine zai ?_ | refine za0 rfl ?_ | refine zab ?_ | refine zac ?_ | refine zbg ?_ | refine zaj ?_ | refine zat ?_ | refine zbl rfl ?_ | refine zbo rfl ?_ | refine zb5 ?_ | refine zaz ?_ | refine zb4 ?_ | refine za6 ?_ | refine za4 rfl ?_ | refine za2 ?_ | refine za7 ?_ | refine zbs rfl ?_ | refine zbu rfl rfl ?_ | refine zc6 rfl ?_ | refine zad rfl ?_ | refine zam rfl rfl ?_ | refine zar rfl rfl rfl rfl ?_ | refine zak rfl rfl rfl rfl rfl rfl rfl ?_ | refine za5 rfl ?_ | refine zal rfl rfl rfl ?_ | refine za1 rfl rfl rfl ?_ | refine zag rfl rfl rfl rfl ?_ | refine zau ?_ | refine zah rfl rfl ?_ | refine zaa rfl rfl ?_ | refine zc2 rfl rfl ?_ | refine zbh rfl rfl ?_ | refine zb0 rfl rfl ?_ | refine zao rfl rfl ?_ | refine zbd rfl rfl ?_ | refine zaf rfl rfl rfl ?_ | refine zax rfl rfl ?_ | refine zan rfl rfl rfl rfl ?_ | refine za9 rfl rfl rfl rfl ?_ | refine zaq rfl rfl rfl rfl ?_ | refine zb9 rfl rfl ?_ | refine zb6 rfl rfl ?_ | refine zae rfl rfl ?_ | refine zba ?_ | refine zas env0_ok rfl rfl rfl ?_ | refine zav (op := .add) rfl rfl rfl ?_ | refine zav (op := .sub) rfl rfl rfl ?_ | refine zb8 rfl rfl rfl ?_ | refine zb7 rfl rfl rfl ?_ | refine zb2 rfl rfl rfl ?_ | refine zb1 rfl rfl rfl ?_ | refine zb3 rfl rfl (by omega) (by assumption) rfl ?_ | refine za1 rfl rfl (decide_eq_true ⟨by omega, by omega⟩) ?_ | refine zay rfl rfl (by omega) (by omega) ?_ | refine zap rfl rfl rfl ?_ | refine zbc rfl ?_ | refine zbb rfl ?_)
    exact zbe ⟨.inr rfl, _, rfl, rfl⟩
end Go.Proofs.Ytmnkjofaodbokaa
