/-
  THE PROGRAM's TABLE: an own list of values, set anew at every point.; THE VARIABLES: both lists are one; what does not occur does not matter.; What does not occur does not matter: the law.; THE LAW OF SIMPLE FORMS.
-/
import Derived.Test.YtmnkjofaodbokaaMX7
namespace Go.Proofs.Ytmnkjofaodbokaa
open Go Go.Am
section
variable {P : Program} {w0 : World} {N0 : Nat} {k : List Fr} {Q : Exit → AS → Prop} {pf : Kn} {ios : List Opr} {n nx ck : Nat} {mk : List (Nat × Nat)} {md : Md} {l : List (Nat × AV)} {hp : List (Nat × Nat × AObj)}
theorem o_mks {d sz bytes : Nat} {z : List AV} {a c : Arg} {lv cv : Int} {kd kc : IntKind} (ha : zc7 a l = some (.int kd lv)) (hc : zc7 c l = some (.int kc cv)) (hb : 0 ≤ lv ∧ lv ≤ cv ∧ cv ≤ 1048576 ∧ bytes ≤ 16777216)
  (go : Om P w0 N0 md pf ios (st n ((d, .ms nx ck sz 0 lv.toNat (some cv.toNat)) :: l) ((nx, ck, .cells (zgb cv.toNat z)) :: hp) (nx + 1) (ck + 1) mk) k Q) (hx : Ops pf (st n l hp nx ck mk) (.mkslice sz bytes z a c) := by exact trivial) :
  Om P w0 N0 md pf (⟨some d, .mkslice sz bytes z a c, none⟩ :: ios) (st n l hp nx ck mk) k Q :=
 zeu (by simp only [iop, zc1, ha, hc, if_pos hb]; rfl) go hx
end
theorem zjr : ∀ n, zgb n [AV.bool false] = (List.replicate n false).map AV.bool
 | 0 => rfl
 | n + 1 => by
  show AV.bool false :: zgb n [AV.bool false] = _
  rw [zjr n]; rfl
theorem zsk {S : AS} {d id sp len : Nat} {cap : Option Nat} (l : List Bool) (hn : l.length = len) (hl : Am.look id S.heap = some (sp, .cells (l.map AV.bool))) : S.view (d + 2) (.ms id sp 1 0 len cap) = vsB l := by
 subst hn
 have hf : l.map AV.bool = (l.map fun b => ([.bool b] : List AV)).flatten := by
  clear hl
  induction l with
  | nil => rfl
  | cons b l ih => simp [ih]
 have e : S.elems 1 (.ms id sp 1 0 l.length cap) = some (l.map fun b => ([.bool b] : List AV)) := by
  obtain ⟨n, t, hp, nx, ck, mk⟩ := S
  exact zgs (ys := []) (cap := cap) (n := n) (nx := nx) (ck := ck) (mk := mk) (l := []) (hp := hp) (by rw [List.append_nil, ← hf]; exact hl) (List.length_map ..) (fun x hx => by obtain ⟨s, _, rfl⟩ := List.mem_map.1 hx; rfl)
 simp only [AS.view, e]
 unfold vsB
 congr 1
 rw [List.map_map]
 exact List.map_congr_left fun _ _ => rfl
theorem bin_shrI {k i : Nat} (h : i ≤ 63) : Am.binOp .shr (.int .i64 (k : Nat)) (.int .i64 (i : Nat)) = some (.int .i64 ((k >>> i : Nat) : Int)) := by
 show ze8 .shr .i64 ((k : Nat) : Int) ((i : Nat) : Int) = _
 unfold ze8
 rw [if_neg (by omega)]
 show some (AV.int .i64 (((k : Nat) : Int).fdiv (2 ^ (min (Int.toNat ((i : Nat) : Int)) 64)))) = some (AV.int .i64 _)
 rw [Int.toNat_natCast, Nat.min_eq_left (by omega), Nat.shiftRight_eq_div_pow]
 have : (2 : Int) ^ i = ((2 ^ i : Nat) : Int) := by push_cast; rfl
 rw [this, Int.fdiv_eq_ediv_of_nonneg _ (Int.natCast_nonneg _)]
 rfl
theorem and_one : ∀ m : Nat, m < 64 → IntKind.wrap .i64 ((BitVec.ofInt 64 ((m : Nat) : Int) &&& BitVec.ofInt 64 1).toNat) = ((m % 2 : Nat) : Int) := by decide +kernel
theorem bin_and1 {m : Nat} (h : m < 64) : Am.binOp .and (.int .i64 (m : Nat)) (.int .i64 1) = some (.int .i64 ((m % 2 : Nat) : Int)) := by
 show some (AV.int .i64 (IntKind.wrap .i64 ((BitVec.ofInt 64 ((m : Nat) : Int) &&& BitVec.ofInt 64 1).toNat))) = _
 rw [and_one m h]
theorem shr_bit (k i : Nat) : decide ((((k >>> i) % 2 : Nat) : Int) = 1) = k.testBit i := by
 rw [Nat.testBit_eq_decide_div_mod_eq, Nat.shiftRight_eq_div_pow]
 congr 1
 exact propext ⟨fun h => by omega, fun h => by omega⟩
theorem shr_lt {k : Nat} (i : Nat) (h : k < 64) : k >>> i < 64 := by
 rw [Nat.shiftRight_eq_div_pow]
 exact Nat.lt_of_le_of_lt (Nat.div_le_self _ _) h
theorem eq_ptB {n k : Nat} {w : List Bool} (hw : w.length = n) (h : ∀ j, j < n → w[j]? = some (k.testBit j)) : w = ptB n k := by
 apply List.ext_getElem?
 intro j
 by_cases hj : j < n
 ·rw [h j hj]
  unfold ptB
  rw [List.getElem?_map, List.getElem?_range hj]; rfl
 ·rw [List.getElem?_eq_none (by omega), List.getElem?_eq_none (by rw [zhk]; omega)]
def b20_2 : IC := .seq (.region [⟨(some 37), .bin .lss (.t 36) (.t 35), none⟩] none)
 (.seq (.cond (.t 37) (.skip)
 (.exit 2))
 (.seq (.block 3 (.seq (.region [⟨(some 38), .mov (.t 36), none⟩,
  ⟨(some 10), .mov (.t 38), none⟩] none)
 (.region [⟨(some 39), .mov (.t 8), none⟩,
  ⟨(some 40), .mov (.t 10), none⟩,
  ⟨(some 41), .mov (.t 9), none⟩,
  ⟨(some 42), .mov (.t 10), none⟩,
  ⟨(some 43), .bin .shr (.t 41) (.t 42), none⟩,
  ⟨(some 44), .bin .and (.t 43) (.c (.int .i64 1)), none⟩,
  ⟨(some 45), .bin .eql (.t 44) (.c (.int .i64 1)), none⟩,
  ⟨(some 46), .idxs 1 (.t 39) (.t 40), none⟩,
  ⟨none, .store 1 (.t 46) (.t 45), none⟩] none)))
 (.region [⟨(some 47), .bin .add (.t 36) (.c (.int .i64 1)), none⟩,
  ⟨(some 36), .mov (.t 47), none⟩] none)))
def b20_0 : IC := .seq (.region [⟨(some 32), .bin .lss (.t 31) (.t 30), none⟩] none)
 (.seq (.cond (.t 32) (.skip)
 (.exit 0))
 (.seq (.block 1 (.seq (.region [⟨(some 33), .mov (.t 31), none⟩,
  ⟨(some 9), .mov (.t 33), none⟩] none)
 (.seq (.seq (.region [⟨(some 34), .mov (.t 8), none⟩,
  ⟨(some 35), .len false (.t 34), none⟩,
  ⟨(some 36), .mov (.c (.int .i64 0)), none⟩] none)
 (.block 2 (.loop b20_2)))
 (.seq (.region [⟨(some 48), .load (some 3) (.t 2), none⟩,
  ⟨(some 49), .mov (.t 8), none⟩,
  ⟨(some 50), .call (.c (.fn 53 [] [])) [(.t 48), (.t 49)], none⟩] none)
 (.cond (.t 50) (.region [⟨(some 51), .faddr 1 (.t 7), none⟩,
  ⟨(some 52), .load none (.t 51), none⟩,
  ⟨(some 53), .mov (.t 9), none⟩,
  ⟨(some 54), .bin .shl (.c (.int .u64 1)) (.t 53), none⟩,
  ⟨(some 55), .bin .or (.t 52) (.t 54), none⟩,
  ⟨(some 56), .faddr 1 (.t 7), none⟩,
  ⟨none, .store 1 (.t 56) (.t 55), none⟩] (some [[], [0], [], [2], [1, 3], [0, 1, 2, 3, 4], [5, 4, 0, 1, 2, 3, 4]]))
 (.skip))))))
 (.region [⟨(some 57), .bin .add (.t 31) (.c (.int .i64 1)), none⟩,
  ⟨(some 31), .mov (.t 57), none⟩] none)))
-- pneumatic/boolexp.Table
def ic20 : IC := .seq (.region [⟨(some 2), .box (.t 0), none⟩,
  ⟨(some 4), .alloc [.int .i64 0, .int .u64 0], none⟩,
  ⟨(some 5), .mov (.c (.int .i64 0)), none⟩] none)
 (.seq (.seq (.region [⟨(some 11), .mov (.t 1), none⟩,
  ⟨(some 12), .bin .lss (.t 11) (.c (.int .i64 0)), none⟩,
  ⟨(some 13), .mov (.t 12), none⟩,
  ⟨(some 14), .mov (.t 1), some (13, false)⟩,
  ⟨(some 15), .bin .gtr (.t 14) (.c (.int .i64 6)), some (13, false)⟩,
  ⟨(some 16), .pick (.t 13) (.c (.bool true)) (.t 15), none⟩] none)
 (.cond (.t 16) (.seq (.region [⟨(some 17), .build [.int .i64 0, .int .u64 0] [], none⟩,
  ⟨none, .store 2 (.t 4) (.t 17), none⟩,
  ⟨(some 5), .mov (.c (.int .i64 2)), none⟩] none)
 (.ret))
 (.skip)))
 (.seq (.seq (.region [⟨(some 18), .load (some 3) (.t 2), none⟩,
  ⟨(some 19), .mov (.t 1), none⟩,
  ⟨(some 20), .call (.c (.fn 32 [] [])) [(.t 18), (.t 19)], none⟩,
  ⟨(some 6), .mov (.t 20), none⟩] none)
 (.seq (.region [⟨(some 21), .mov (.t 6), none⟩,
  ⟨(some 22), .bin .neq (.t 21) (.c (.int .i64 0)), none⟩] none)
 (.cond (.t 22) (.seq (.region [⟨(some 23), .build [.int .i64 0, .int .u64 0] [], none⟩,
  ⟨(some 24), .mov (.t 6), none⟩,
  ⟨none, .store 2 (.t 4) (.t 23), none⟩,
  ⟨(some 5), .mov (.t 24), none⟩] none)
 (.ret))
 (.skip))))
 (.seq (.region [⟨(some 25), .mov (.t 1), none⟩,
  ⟨(some 26), .build [.int .i64 0, .int .u64 0] [(0, 1, (.t 25))], none⟩,
  ⟨(some 7), .alloc [.int .i64 0, .int .u64 0], none⟩,
  ⟨none, .store 2 (.t 7) (.t 26), none⟩] none)
 (.seq (.region [⟨(some 27), .mov (.t 1), none⟩,
  ⟨(some 28), .mkslice 1 1 [.bool false] (.t 27) (.t 27), none⟩,
  ⟨(some 8), .mov (.t 28), none⟩] none)
 (.seq (.seq (.region [⟨(some 29), .mov (.t 1), none⟩,
  ⟨(some 30), .bin .shl (.c (.int .i64 1)) (.t 29), none⟩,
  ⟨(some 31), .mov (.c (.int .i64 0)), none⟩] none)
 (.block 0 (.loop b20_0)))
 (.seq (.region [⟨(some 58), .load (some 2) (.t 7), none⟩,
  ⟨none, .store 2 (.t 4) (.t 58), none⟩,
  ⟨(some 5), .mov (.c (.int .i64 0)), none⟩] none)
 (.ret)))))))
theorem fn20 : env0.fn 20 = some ⟨59, ic20, [.cell 4 (some 2), .t 5]⟩ := by kernel_rfl
set_option maxHeartbeats 4000000 in
theorem zwb (x : Ex) (hs : Slim x) (n : Nat) : PF Try.prog 20 [.agg (cX x), .int .i64 (n : Nat)] (zwc x n) := by
 have p32 := zl4 x hs (n : Nat)
 rw [zf5] at p32
 have p53 : zch x (n : Nat) = 0 → ∀ k, PF Try.prog 53 [.agg (cX x), vsB (ptB n k)] (.bool (zbw (ptB n k) x)) := fun h k => eval100 (ptB n k) _ x (Nat.le_refl _) (by rw [zhk]; exact znm h)
 unfold zwc tbV
 have hT : ∀ k, tbB n x (k + 1) = if zbw (ptB n k) x = true then tbB n x k ||| 1#64 <<< k else tbB n x k := fun k => rfl
 have hT0 : tbB n x 0 = 0#64 := rfl
 generalize tbB n x = T at *
 generalize hhx : (fun k => zbw (ptB n k) x) = B at *
 have hB : ∀ k, zbw (ptB n k) x = B k := fun k => by rw [← hhx]
 simp only [hB] at p53 hT
 clear hhx hB
 generalize zch x (n : Nat) = c at *
 obtain ⟨op, ix, args⟩ := x
 refine zbv env0_ok fn20 [(0, .agg (cX (.nd op ix args))), (1, .int .i64 (n : Nat))] (by show 2 ≤ 59; decide) rfl fun w0 N0 => ?_
 unfold ic20
 refine zar (za1 rfl (zbd rfl rfl (zaq (zao rfl (zak (zal ?_))))))
 refine zct [(some (1, 1), [.int .i64 0, .int .u64 0])] [(0, 0, cX (.nd op ix args))] [(1, .int .i64 (n : Nat)), (2, .vptr (cX (.nd op ix args))), (4, .mptr 0 0 0)] rfl (.cons rfl rfl .nil) (.cons rfl (.cons (.same rfl) (.cons (.same rfl) .nil)) .nil) (.cons rfl (.same rfl) (.cons rfl (.fptr rfl rfl) (.cons rfl (.mptr rfl) .nil))) ?_
 repeat (first | refine zar ?_ | refine za1 rfl ?_ | refine zak ?_ | refine zal ?_ | refine zbe ?_ | refine zan ?_ | refine zaw ?_ | refine zbj rfl ?_ | refine zbk rfl ?_ | refine zb2 ?_ | refine zb0 ?_ | refine zb1 ?_ | refine za4 ?_ | refine za2 rfl ?_ | refine za3 ?_ | refine za5 ?_ | refine zbn rfl ?_ | refine zbq rfl rfl ?_ | refine zbu rfl ?_ | refine zao rfl ?_ | refine zav rfl rfl ?_ | refine zap rfl rfl rfl rfl ?_ | refine zam rfl rfl rfl rfl rfl rfl rfl ?_ | refine za7 rfl ?_ | refine zae rfl rfl rfl ?_ | refine za0 rfl rfl rfl ?_ | refine zab rfl rfl rfl rfl ?_ | refine zaq ?_ | refine zaj rfl rfl ?_ | refine zac rfl rfl ?_ | refine zbs rfl rfl ?_ | refine zbf rfl rfl ?_ | refine zay rfl rfl ?_ | refine zad rfl rfl ?_ | refine zbd rfl rfl ?_ | refine zaa rfl rfl rfl ?_ | refine zau rfl rfl ?_ | refine zah rfl rfl rfl rfl ?_ | refine za8 rfl rfl rfl rfl ?_ | refine zag rfl rfl rfl rfl ?_ | refine zb8 rfl rfl ?_ | refine zb5 rfl rfl ?_ | refine za9 rfl rfl ?_ | refine zb9 ?_ | refine zai env0_ok rfl rfl rfl ?_ | refine zas (op := .add) rfl rfl rfl ?_ | refine zas (op := .sub) rfl rfl rfl ?_ | refine zb7 rfl rfl rfl ?_ | refine zb6 rfl rfl rfl ?_ | refine zb3 rfl rfl rfl ?_ | refine zaz rfl rfl rfl ?_ | refine zb4 rfl rfl (by omega) (by assumption) rfl ?_ | refine za0 rfl rfl (decide_eq_true ⟨by omega, by omega⟩) ?_ | refine zax rfl rfl (by omega) (by omega) ?_ | refine zaf rfl rfl rfl ?_ | refine zbb rfl ?_ | refine zba rfl ?_)
 refine zbr rfl rfl rfl (fun h4 => ?_) fun h4 => ?_
 ·have h6 : n > 6 := by
   have h4 : ((n : Nat) : Int) > 6 := of_decide_eq_true h4
   omega
  rw [if_pos h6]
  repeat (first | refine zar ?_ | refine za1 rfl ?_ | refine zak ?_ | refine zal ?_ | refine zbe ?_ | refine zan ?_ | refine zaw ?_ | refine zbj rfl ?_ | refine zbk rfl ?_ | refine zb2 ?_ | refine zb0 ?_ | refine zb1 ?_ | refine za4 ?_ | refine za2 rfl ?_ | refine za3 ?_ | refine za5 ?_ | refine zbn rfl ?_ | refine zbq rfl rfl ?_ | refine zbu rfl ?_ | refine zao rfl ?_ | refine zav rfl rfl ?_ | refine zap rfl rfl rfl rfl ?_ | refine zam rfl rfl rfl rfl rfl rfl rfl ?_ | refine za7 rfl ?_ | refine zae rfl rfl rfl ?_ | refine za0 rfl rfl rfl ?_ | refine zab rfl rfl rfl rfl ?_ | refine zaq ?_ | refine zaj rfl rfl ?_ | refine zac rfl rfl ?_ | refine zbs rfl rfl ?_ | refine zbf rfl rfl ?_ | refine zay rfl rfl ?_ | refine zad rfl rfl ?_ | refine zbd rfl rfl ?_ | refine zaa rfl rfl rfl ?_ | refine zau rfl rfl ?_ | refine zah rfl rfl rfl rfl ?_ | refine za8 rfl rfl rfl rfl ?_ | refine zag rfl rfl rfl rfl ?_ | refine zb8 rfl rfl ?_ | refine zb5 rfl rfl ?_ | refine za9 rfl rfl ?_ | refine zb9 ?_ | refine zai env0_ok rfl rfl rfl ?_ | refine zas (op := .add) rfl rfl rfl ?_ | refine zas (op := .sub) rfl rfl rfl ?_ | refine zb7 rfl rfl rfl ?_ | refine zb6 rfl rfl rfl ?_ | refine zb3 rfl rfl rfl ?_ | refine zaz rfl rfl rfl ?_ | refine zb4 rfl rfl (by omega) (by assumption) rfl ?_ | refine za0 rfl rfl (decide_eq_true ⟨by omega, by omega⟩) ?_ | refine zax rfl rfl (by omega) (by omega) ?_ | refine zaf rfl rfl rfl ?_ | refine zbb rfl ?_ | refine zba rfl ?_)
  exact zbh ⟨.inr rfl, _, rfl, rfl⟩
 ·have h6 : ¬ n > 6 := by
   have h4 : ¬ ((n : Nat) : Int) > 6 := of_decide_eq_false h4
   omega
  rw [if_neg h6]
  have hn : n ≤ 6 := by omega
  have h64 := pow_le64 hn
  have hsh := bin_shl1 hn
  repeat (first | refine zar ?_ | refine za1 rfl ?_ | refine zak ?_ | refine zal ?_ | refine zbe ?_ | refine zan ?_ | refine zaw ?_ | refine zbj rfl ?_ | refine zbk rfl ?_ | refine zb2 ?_ | refine zb0 ?_ | refine zb1 ?_ | refine za4 ?_ | refine za2 rfl ?_ | refine za3 ?_ | refine za5 ?_ | refine zbn rfl ?_ | refine zbq rfl rfl ?_ | refine zbu rfl ?_ | refine zao rfl ?_ | refine zav rfl rfl ?_ | refine zap rfl rfl rfl rfl ?_ | refine zam rfl rfl rfl rfl rfl rfl rfl ?_ | refine za7 rfl ?_ | refine zae rfl rfl rfl ?_ | refine za0 rfl rfl rfl ?_ | refine zab rfl rfl rfl rfl ?_ | refine zaq ?_ | refine zaj rfl rfl ?_ | refine zac rfl rfl ?_ | refine zbs rfl rfl ?_ | refine zbf rfl rfl ?_ | refine zay rfl rfl ?_ | refine zad rfl rfl ?_ | refine zbd rfl rfl ?_ | refine zaa rfl rfl rfl ?_ | refine zau rfl rfl ?_ | refine zah rfl rfl rfl rfl ?_ | refine za8 rfl rfl rfl rfl ?_ | refine zag rfl rfl rfl rfl ?_ | refine zb8 rfl rfl ?_ | refine zb5 rfl rfl ?_ | refine za9 rfl rfl ?_ | refine zb9 ?_ | refine zai env0_ok rfl rfl rfl ?_ | refine zas (op := .add) rfl rfl rfl ?_ | refine zas (op := .sub) rfl rfl rfl ?_ | refine zb7 rfl rfl rfl ?_ | refine zb6 rfl rfl rfl ?_ | refine zb3 rfl rfl rfl ?_ | refine zaz rfl rfl rfl ?_ | refine zb4 rfl rfl (by omega) (by assumption) rfl ?_ | refine za0 rfl rfl (decide_eq_true ⟨by omega, by omega⟩) ?_ | refine zax rfl rfl (by omega) (by omega) ?_ | refine zaf rfl rfl rfl ?_ | refine zbb rfl ?_ | refine zba rfl ?_)
  refine zbp rfl rfl p32 (fun h => Bool.noConfusion (show false = true from h)) ?_
  repeat (first | refine zar ?_ | refine za1 rfl ?_ | refine zak ?_ | refine zal ?_ | refine zbe ?_ | refine zan ?_ | refine zaw ?_ | refine zbj rfl ?_ | refine zbk rfl ?_ | refine zb2 ?_ | refine zb0 ?_ | refine zb1 ?_ | refine za4 ?_ | refine za2 rfl ?_ | refine za3 ?_ | refine za5 ?_ | refine zbn rfl ?_ | refine zbq rfl rfl ?_ | refine zbu rfl ?_ | refine zao rfl ?_ | refine zav rfl rfl ?_ | refine zap rfl rfl rfl rfl ?_ | refine zam rfl rfl rfl rfl rfl rfl rfl ?_ | refine za7 rfl ?_ | refine zae rfl rfl rfl ?_ | refine za0 rfl rfl rfl ?_ | refine zab rfl rfl rfl rfl ?_ | refine zaq ?_ | refine zaj rfl rfl ?_ | refine zac rfl rfl ?_ | refine zbs rfl rfl ?_ | refine zbf rfl rfl ?_ | refine zay rfl rfl ?_ | refine zad rfl rfl ?_ | refine zbd rfl rfl ?_ | refine zaa rfl rfl rfl ?_ | refine zau rfl rfl ?_ | refine zah rfl rfl rfl rfl ?_ | refine za8 rfl rfl rfl rfl ?_ | refine zag rfl rfl rfl rfl ?_ | refine zb8 rfl rfl ?_ | refine zb5 rfl rfl ?_ | refine za9 rfl rfl ?_ | refine zb9 ?_ | refine zai env0_ok rfl rfl rfl ?_ | refine zas (op := .add) rfl rfl rfl ?_ | refine zas (op := .sub) rfl rfl rfl ?_ | refine zb7 rfl rfl rfl ?_ | refine zb6 rfl rfl rfl ?_ | refine zb3 rfl rfl rfl ?_ | refine zaz rfl rfl rfl ?_ | refine zb4 rfl rfl (by omega) (by assumption) rfl ?_ | refine za0 rfl rfl (decide_eq_true ⟨by omega, by omega⟩) ?_ | refine zax rfl rfl (by omega) (by omega) ?_ | refine zaf rfl rfl rfl ?_ | refine zbb rfl ?_ | refine zba rfl ?_)
  refine zbr rfl rfl rfl (fun hc => ?_) fun hc => ?_
  ·rw [if_neg (bne_iff_ne.1 hc)]
   repeat (first | refine zar ?_ | refine za1 rfl ?_ | refine zak ?_ | refine zal ?_ | refine zbe ?_ | refine zan ?_ | refine zaw ?_ | refine zbj rfl ?_ | refine zbk rfl ?_ | refine zb2 ?_ | refine zb0 ?_ | refine zb1 ?_ | refine za4 ?_ | refine za2 rfl ?_ | refine za3 ?_ | refine za5 ?_ | refine zbn rfl ?_ | refine zbq rfl rfl ?_ | refine zbu rfl ?_ | refine zao rfl ?_ | refine zav rfl rfl ?_ | refine zap rfl rfl rfl rfl ?_ | refine zam rfl rfl rfl rfl rfl rfl rfl ?_ | refine za7 rfl ?_ | refine zae rfl rfl rfl ?_ | refine za0 rfl rfl rfl ?_ | refine zab rfl rfl rfl rfl ?_ | refine zaq ?_ | refine zaj rfl rfl ?_ | refine zac rfl rfl ?_ | refine zbs rfl rfl ?_ | refine zbf rfl rfl ?_ | refine zay rfl rfl ?_ | refine zad rfl rfl ?_ | refine zbd rfl rfl ?_ | refine zaa rfl rfl rfl ?_ | refine zau rfl rfl ?_ | refine zah rfl rfl rfl rfl ?_ | refine za8 rfl rfl rfl rfl ?_ | refine zag rfl rfl rfl rfl ?_ | refine zb8 rfl rfl ?_ | refine zb5 rfl rfl ?_ | refine za9 rfl rfl ?_ | refine zb9 ?_ | refine zai env0_ok rfl rfl rfl ?_ | refine zas (op := .add) rfl rfl rfl ?_ | refine zas (op := .sub) rfl rfl rfl ?_ | refine zb7 rfl rfl rfl ?_ | refine zb6 rfl rfl rfl ?_ | refine zb3 rfl rfl rfl ?_ | refine zaz rfl rfl rfl ?_ | refine zb4 rfl rfl (by omega) (by assumption) rfl ?_ | refine za0 rfl rfl (decide_eq_true ⟨by omega, by omega⟩) ?_ | refine zax rfl rfl (by omega) (by omega) ?_ | refine zaf rfl rfl rfl ?_ | refine zbb rfl ?_ | refine zba rfl ?_)
   exact zbh ⟨.inr rfl, _, rfl, rfl⟩
  ·have hc : c = 0 := by simpa using hc
   have q53 := p53 hc
   rw [if_pos hc]
   clear p53
   repeat (first | refine zar ?_ | refine za1 rfl ?_ | refine zak ?_ | refine zal ?_ | refine zbe ?_ | refine zan ?_ | refine zaw ?_ | refine zbj rfl ?_ | refine zbk rfl ?_ | refine zb2 ?_ | refine zb0 ?_ | refine zb1 ?_ | refine za4 ?_ | refine za2 rfl ?_ | refine za3 ?_ | refine za5 ?_ | refine zbn rfl ?_ | refine zbq rfl rfl ?_ | refine zbu rfl ?_ | refine zao rfl ?_ | refine zav rfl rfl ?_ | refine zap rfl rfl rfl rfl ?_ | refine zam rfl rfl rfl rfl rfl rfl rfl ?_ | refine za7 rfl ?_ | refine zae rfl rfl rfl ?_ | refine za0 rfl rfl rfl ?_ | refine zab rfl rfl rfl rfl ?_ | refine zaq ?_ | refine zaj rfl rfl ?_ | refine zac rfl rfl ?_ | refine zbs rfl rfl ?_ | refine zbf rfl rfl ?_ | refine zay rfl rfl ?_ | refine zad rfl rfl ?_ | refine zbd rfl rfl ?_ | refine zaa rfl rfl rfl ?_ | refine zau rfl rfl ?_ | refine zah rfl rfl rfl rfl ?_ | refine za8 rfl rfl rfl rfl ?_ | refine zag rfl rfl rfl rfl ?_ | refine zb8 rfl rfl ?_ | refine zb5 rfl rfl ?_ | refine za9 rfl rfl ?_ | refine zb9 ?_ | refine zai env0_ok rfl rfl rfl ?_ | refine zas (op := .add) rfl rfl rfl ?_ | refine zas (op := .sub) rfl rfl rfl ?_ | refine zb7 rfl rfl rfl ?_ | refine zb6 rfl rfl rfl ?_ | refine zb3 rfl rfl rfl ?_ | refine zaz rfl rfl rfl ?_ | refine zb4 rfl rfl (by omega) (by assumption) rfl ?_ | refine za0 rfl rfl (decide_eq_true ⟨by omega, by omega⟩) ?_ | refine zax rfl rfl (by omega) (by omega) ?_ | refine zaf rfl rfl rfl ?_ | refine zbb rfl ?_ | refine zba rfl ?_)
   refine o_mks rfl rfl ⟨by omega, by omega, by omega, by decide⟩ ?_
   repeat (first | refine zar ?_ | refine za1 rfl ?_ | refine zak ?_ | refine zal ?_ | refine zbe ?_ | refine zan ?_ | refine zaw ?_ | refine zbj rfl ?_ | refine zbk rfl ?_ | refine zb2 ?_ | refine zb0 ?_ | refine zb1 ?_ | refine za4 ?_ | refine za2 rfl ?_ | refine za3 ?_ | refine za5 ?_ | refine zbn rfl ?_ | refine zbq rfl rfl ?_ | refine zbu rfl ?_ | refine zao rfl ?_ | refine zav rfl rfl ?_ | refine zap rfl rfl rfl rfl ?_ | refine zam rfl rfl rfl rfl rfl rfl rfl ?_ | refine za7 rfl ?_ | refine zae rfl rfl rfl ?_ | refine za0 rfl rfl rfl ?_ | refine zab rfl rfl rfl rfl ?_ | refine zaq ?_ | refine zaj rfl rfl ?_ | refine zac rfl rfl ?_ | refine zbs rfl rfl ?_ | refine zbf rfl rfl ?_ | refine zay rfl rfl ?_ | refine zad rfl rfl ?_ | refine zbd rfl rfl ?_ | refine zaa rfl rfl rfl ?_ | refine zau rfl rfl ?_ | refine zah rfl rfl rfl rfl ?_ | refine za8 rfl rfl rfl rfl ?_ | refine zag rfl rfl rfl rfl ?_ | refine zb8 rfl rfl ?_ | refine zb5 rfl rfl ?_ | refine za9 rfl rfl ?_ | refine zb9 ?_ | refine zai env0_ok rfl rfl rfl ?_ | refine zas (op := .add) rfl rfl rfl ?_ | refine zas (op := .sub) rfl rfl rfl ?_ | refine zb7 rfl rfl rfl ?_ | refine zb6 rfl rfl rfl ?_ | refine zb3 rfl rfl rfl ?_ | refine zaz rfl rfl rfl ?_ | refine zb4 rfl rfl (by omega) (by assumption) rfl ?_ | refine za0 rfl rfl (decide_eq_true ⟨by omega, by omega⟩) ?_ | refine zax rfl rfl (by omega) (by omega) ?_ | refine zaf rfl rfl rfl ?_ | refine zbb rfl ?_ | refine zba rfl ?_)
   refine zas rfl rfl hsh ?_
   repeat (first | refine zar ?_ | refine za1 rfl ?_ | refine zak ?_ | refine zal ?_ | refine zbe ?_ | refine zan ?_ | refine zaw ?_ | refine zbj rfl ?_ | refine zbk rfl ?_ | refine zb2 ?_ | refine zb0 ?_ | refine zb1 ?_ | refine za4 ?_ | refine za2 rfl ?_ | refine za3 ?_ | refine za5 ?_ | refine zbn rfl ?_ | refine zbq rfl rfl ?_ | refine zbu rfl ?_ | refine zao rfl ?_ | refine zav rfl rfl ?_ | refine zap rfl rfl rfl rfl ?_ | refine zam rfl rfl rfl rfl rfl rfl rfl ?_ | refine za7 rfl ?_ | refine zae rfl rfl rfl ?_ | refine za0 rfl rfl rfl ?_ | refine zab rfl rfl rfl rfl ?_ | refine zaq ?_ | refine zaj rfl rfl ?_ | refine zac rfl rfl ?_ | refine zbs rfl rfl ?_ | refine zbf rfl rfl ?_ | refine zay rfl rfl ?_ | refine zad rfl rfl ?_ | refine zbd rfl rfl ?_ | refine zaa rfl rfl rfl ?_ | refine zau rfl rfl ?_ | refine zah rfl rfl rfl rfl ?_ | refine za8 rfl rfl rfl rfl ?_ | refine zag rfl rfl rfl rfl ?_ | refine zb8 rfl rfl ?_ | refine zb5 rfl rfl ?_ | refine za9 rfl rfl ?_ | refine zb9 ?_ | refine zai env0_ok rfl rfl rfl ?_ | refine zas (op := .add) rfl rfl rfl ?_ | refine zas (op := .sub) rfl rfl rfl ?_ | refine zb7 rfl rfl rfl ?_ | refine zb6 rfl rfl rfl ?_ | refine zb3 rfl rfl rfl ?_ | refine zaz rfl rfl rfl ?_ | refine zb4 rfl rfl (by omega) (by assumption) rfl ?_ | refine za0 rfl rfl (decide_eq_true ⟨by omega, by omega⟩) ?_ | refine zax rfl rfl (by omega) (by omega) ?_ | refine zaf rfl rfl rfl ?_ | refine zbb rfl ?_ | refine zba rfl ?_)
   refine zct [(some (0, 0), [.int .i64 0, .int .u64 0]), (some (1, 1), [.int .i64 (n : Nat), cU 0#64]), (some (2, 2), zgb n [AV.bool false])] [] [(1, .int .i64 (n : Nat)), (2, .vptr (cX (.nd op ix args))), (4, .mptr 0 0 0), (7, .mptr 1 0 0), (8, .ms 2 0 1 0 n (some n)), (30, .int .i64 ((2 ^ n : Nat) : Int)), (31, .int .i64 0)] rfl .nil (.cons rfl (.cons (.same rfl) (.cons (.same rfl) .nil)) (.cons rfl (.cons (.same rfl) (.cons (.same rfl) .nil)) (.cons rfl (.keep (by rw [zjr]; exact zj7 _)) .nil))) (.cons rfl (.same rfl) (.cons rfl (.same rfl) (.cons rfl (.mptr rfl) (.cons rfl (.mptr rfl) (.cons rfl (.ms rfl) (.cons rfl (.same rfl) (.cons rfl (.same rfl) .nil))))))) ?_
   refine zdu (fun mm S => ∃ (k : Nat) (w : List Bool), mm = 2 ^ n - k ∧ k ≤ 2 ^ n ∧ w.length = n ∧ S = st 59 [(1, .int .i64 (n : Nat)), (2, .vptr (cX (.nd op ix args))), (4, .mptr 0 0 0), (7, .mptr 1 0 0), (8, .ms 2 0 1 0 n (some n)), (30, .int .i64 ((2 ^ n : Nat) : Int)), (31, .int .i64 (k : Nat))] [(0, 0, .cells [.int .i64 0, .int .u64 0]), (1, 0, .cells [.int .i64 (n : Nat), cU (T k)]), (2, 0, .cells (w.map AV.bool))] 3 1) (2 ^ n)
    (zbm (.cons rfl (.cons rfl (.cons rfl (.cons rfl (.cons rfl (.cons rfl (.cons rfl .nil)))))))) ⟨0, List.replicate n false, rfl, Nat.zero_le _, List.length_replicate, by rw [hT0, ← zjr]; rfl⟩ ?_
   rintro mm S ⟨k, w, rfl, hk, hw, rfl⟩
   unfold b20_0
   repeat (first | refine zar ?_ | refine za1 rfl ?_ | refine zak ?_ | refine zal ?_ | refine zbe ?_ | refine zan ?_ | refine zaw ?_ | refine zbj rfl ?_ | refine zbk rfl ?_ | refine zb2 ?_ | refine zb0 ?_ | refine zb1 ?_ | refine za4 ?_ | refine za2 rfl ?_ | refine za3 ?_ | refine za5 ?_ | refine zbn rfl ?_ | refine zbq rfl rfl ?_ | refine zbu rfl ?_ | refine zao rfl ?_ | refine zav rfl rfl ?_ | refine zap rfl rfl rfl rfl ?_ | refine zam rfl rfl rfl rfl rfl rfl rfl ?_ | refine za7 rfl ?_ | refine zae rfl rfl rfl ?_ | refine za0 rfl rfl rfl ?_ | refine zab rfl rfl rfl rfl ?_ | refine zaq ?_ | refine zaj rfl rfl ?_ | refine zac rfl rfl ?_ | refine zbs rfl rfl ?_ | refine zbf rfl rfl ?_ | refine zay rfl rfl ?_ | refine zad rfl rfl ?_ | refine zbd rfl rfl ?_ | refine zaa rfl rfl rfl ?_ | refine zau rfl rfl ?_ | refine zah rfl rfl rfl rfl ?_ | refine za8 rfl rfl rfl rfl ?_ | refine zag rfl rfl rfl rfl ?_ | refine zb8 rfl rfl ?_ | refine zb5 rfl rfl ?_ | refine za9 rfl rfl ?_ | refine zb9 ?_ | refine zai env0_ok rfl rfl rfl ?_ | refine zas (op := .add) rfl rfl rfl ?_ | refine zas (op := .sub) rfl rfl rfl ?_ | refine zb7 rfl rfl rfl ?_ | refine zb6 rfl rfl rfl ?_ | refine zb3 rfl rfl rfl ?_ | refine zaz rfl rfl rfl ?_ | refine zb4 rfl rfl (by omega) (by assumption) rfl ?_ | refine za0 rfl rfl (decide_eq_true ⟨by omega, by omega⟩) ?_ | refine zax rfl rfl (by omega) (by omega) ?_ | refine zaf rfl rfl rfl ?_ | refine zbb rfl ?_ | refine zba rfl ?_)
   refine zbr rfl rfl rfl (fun h4 => ?_) fun h4 => ?_
   ·have hlt : k < 2 ^ n := by
     have h4 : ((k : Nat) : Int) < ((2 ^ n : Nat) : Int) := of_decide_eq_true h4
     omega
    have p53 := q53 k
    have hTk := hT k
    repeat (first | refine zar ?_ | refine za1 rfl ?_ | refine zak ?_ | refine zal ?_ | refine zbe ?_ | refine zan ?_ | refine zaw ?_ | refine zbj rfl ?_ | refine zbk rfl ?_ | refine zb2 ?_ | refine zb0 ?_ | refine zb1 ?_ | refine za4 ?_ | refine za2 rfl ?_ | refine za3 ?_ | refine za5 ?_ | refine zbn rfl ?_ | refine zbq rfl rfl ?_ | refine zbu rfl ?_ | refine zao rfl ?_ | refine zav rfl rfl ?_ | refine zap rfl rfl rfl rfl ?_ | refine zam rfl rfl rfl rfl rfl rfl rfl ?_ | refine za7 rfl ?_ | refine zae rfl rfl rfl ?_ | refine za0 rfl rfl rfl ?_ | refine zab rfl rfl rfl rfl ?_ | refine zaq ?_ | refine zaj rfl rfl ?_ | refine zac rfl rfl ?_ | refine zbs rfl rfl ?_ | refine zbf rfl rfl ?_ | refine zay rfl rfl ?_ | refine zad rfl rfl ?_ | refine zbd rfl rfl ?_ | refine zaa rfl rfl rfl ?_ | refine zau rfl rfl ?_ | refine zah rfl rfl rfl rfl ?_ | refine za8 rfl rfl rfl rfl ?_ | refine zag rfl rfl rfl rfl ?_ | refine zb8 rfl rfl ?_ | refine zb5 rfl rfl ?_ | refine za9 rfl rfl ?_ | refine zb9 ?_ | refine zai env0_ok rfl rfl rfl ?_ | refine zas (op := .add) rfl rfl rfl ?_ | refine zas (op := .sub) rfl rfl rfl ?_ | refine zb7 rfl rfl rfl ?_ | refine zb6 rfl rfl rfl ?_ | refine zb3 rfl rfl rfl ?_ | refine zaz rfl rfl rfl ?_ | refine zb4 rfl rfl (by omega) (by assumption) rfl ?_ | refine za0 rfl rfl (decide_eq_true ⟨by omega, by omega⟩) ?_ | refine zax rfl rfl (by omega) (by omega) ?_ | refine zaf rfl rfl rfl ?_ | refine zbb rfl ?_ | refine zba rfl ?_)
    refine zdu (fun mm S => ∃ (i : Nat) (w : List Bool), mm = n - i ∧ i ≤ n ∧ w.length = n ∧ (∀ j, j < i → w[j]? = some (k.testBit j)) ∧ S = st 59 [(1, .int .i64 (n : Nat)), (2, .vptr (cX (.nd op ix args))), (4, .mptr 0 0 0), (7, .mptr 1 0 0), (8, .ms 2 0 1 0 n (some n)), (30, .int .i64 ((2 ^ n : Nat) : Int)), (31, .int .i64 (k : Nat)), (9, .int .i64 (k : Nat)), (35, .int .i64 (n : Nat)), (36, .int .i64 (i : Nat))] [(0, 0, .cells [.int .i64 0, .int .u64 0]), (1, 0, .cells [.int .i64 (n : Nat), cU (T k)]), (2, 0, .cells (w.map AV.bool))] 3 1) n
     (zbm (.cons rfl (.cons rfl (.cons rfl (.cons rfl (.cons rfl (.cons rfl (.cons rfl (.cons rfl (.cons rfl (.cons rfl .nil))))))))))) ⟨0, w, rfl, Nat.zero_le _, hw, fun j h => absurd h (Nat.not_lt_zero _), rfl⟩ ?_
    rintro mm S ⟨i, w, rfl, hi, hw, hpre, rfl⟩
    unfold b20_2
    repeat (first | refine zar ?_ | refine za1 rfl ?_ | refine zak ?_ | refine zal ?_ | refine zbe ?_ | refine zan ?_ | refine zaw ?_ | refine zbj rfl ?_ | refine zbk rfl ?_ | refine zb2 ?_ | refine zb0 ?_ | refine zb1 ?_ | refine za4 ?_ | refine za2 rfl ?_ | refine za3 ?_ | refine za5 ?_ | refine zbn rfl ?_ | refine zbq rfl rfl ?_ | refine zbu rfl ?_ | refine zao rfl ?_ | refine zav rfl rfl ?_ | refine zap rfl rfl rfl rfl ?_ | refine zam rfl rfl rfl rfl rfl rfl rfl ?_ | refine za7 rfl ?_ | refine zae rfl rfl rfl ?_ | refine za0 rfl rfl rfl ?_ | refine zab rfl rfl rfl rfl ?_ | refine zaq ?_ | refine zaj rfl rfl ?_ | refine zac rfl rfl ?_ | refine zbs rfl rfl ?_ | refine zbf rfl rfl ?_ | refine zay rfl rfl ?_ | refine zad rfl rfl ?_ | refine zbd rfl rfl ?_ | refine zaa rfl rfl rfl ?_ | refine zau rfl rfl ?_ | refine zah rfl rfl rfl rfl ?_ | refine za8 rfl rfl rfl rfl ?_ | refine zag rfl rfl rfl rfl ?_ | refine zb8 rfl rfl ?_ | refine zb5 rfl rfl ?_ | refine za9 rfl rfl ?_ | refine zb9 ?_ | refine zai env0_ok rfl rfl rfl ?_ | refine zas (op := .add) rfl rfl rfl ?_ | refine zas (op := .sub) rfl rfl rfl ?_ | refine zb7 rfl rfl rfl ?_ | refine zb6 rfl rfl rfl ?_ | refine zb3 rfl rfl rfl ?_ | refine zaz rfl rfl rfl ?_ | refine zb4 rfl rfl (by omega) (by assumption) rfl ?_ | refine za0 rfl rfl (decide_eq_true ⟨by omega, by omega⟩) ?_ | refine zax rfl rfl (by omega) (by omega) ?_ | refine zaf rfl rfl rfl ?_ | refine zbb rfl ?_ | refine zba rfl ?_)
    refine zbr rfl rfl rfl (fun h5 => ?_) fun h5 => ?_
    ·have hit : i < n := by
      have h5 : ((i : Nat) : Int) < ((n : Nat) : Int) := of_decide_eq_true h5
      omega
     repeat (first | refine zar ?_ | refine za1 rfl ?_ | refine zak ?_ | refine zal ?_ | refine zbe ?_ | refine zan ?_ | refine zaw ?_ | refine zbj rfl ?_ | refine zbk rfl ?_ | refine zb2 ?_ | refine zb0 ?_ | refine zb1 ?_ | refine za4 ?_ | refine za2 rfl ?_ | refine za3 ?_ | refine za5 ?_ | refine zbn rfl ?_ | refine zbq rfl rfl ?_ | refine zbu rfl ?_ | refine zao rfl ?_ | refine zav rfl rfl ?_ | refine zap rfl rfl rfl rfl ?_ | refine zam rfl rfl rfl rfl rfl rfl rfl ?_ | refine za7 rfl ?_ | refine zae rfl rfl rfl ?_ | refine za0 rfl rfl rfl ?_ | refine zab rfl rfl rfl rfl ?_ | refine zaq ?_ | refine zaj rfl rfl ?_ | refine zac rfl rfl ?_ | refine zbs rfl rfl ?_ | refine zbf rfl rfl ?_ | refine zay rfl rfl ?_ | refine zad rfl rfl ?_ | refine zbd rfl rfl ?_ | refine zaa rfl rfl rfl ?_ | refine zau rfl rfl ?_ | refine zah rfl rfl rfl rfl ?_ | refine za8 rfl rfl rfl rfl ?_ | refine zag rfl rfl rfl rfl ?_ | refine zb8 rfl rfl ?_ | refine zb5 rfl rfl ?_ | refine za9 rfl rfl ?_ | refine zb9 ?_ | refine zai env0_ok rfl rfl rfl ?_ | refine zas (op := .add) rfl rfl rfl ?_ | refine zas (op := .sub) rfl rfl rfl ?_ | refine zb7 rfl rfl rfl ?_ | refine zb6 rfl rfl rfl ?_ | refine zb3 rfl rfl rfl ?_ | refine zaz rfl rfl rfl ?_ | refine zb4 rfl rfl (by omega) (by assumption) rfl ?_ | refine za0 rfl rfl (decide_eq_true ⟨by omega, by omega⟩) ?_ | refine zax rfl rfl (by omega) (by omega) ?_ | refine zaf rfl rfl rfl ?_ | refine zbb rfl ?_ | refine zba rfl ?_)
     refine zas rfl rfl (bin_shrI (by omega)) ?_
     refine zas rfl rfl (bin_and1 (shr_lt i (by omega))) ?_
     refine zas rfl rfl (show _ = some (AV.bool (k.testBit i)) from congrArg (fun b => some (AV.bool b)) (shr_bit k i)) ?_
     refine zax rfl rfl (by omega) (by omega) ?_
     rw [show 0 + ((i : Nat) : Int).toNat * 1 = i from by simp]
     refine zqs rfl rfl rfl rfl (by rw [List.length_map, hw]; exact hit) rfl ?_
     rw [← List.map_set]
     have hw2 : (w.set i (k.testBit i)).length = n := by rw [List.length_set, hw]
     have hpre2 : ∀ j, j < i + 1 → (w.set i (k.testBit i))[j]? = some (k.testBit j) := fun j hj => by
      by_cases e : i = j
      ·subst e
       rw [List.getElem?_set_self (by omega)]
      ·rw [List.getElem?_set_ne e]
       exact hpre j (by omega)
     generalize w.set i (k.testBit i) = w2 at *
     repeat (first | refine zar ?_ | refine za1 rfl ?_ | refine zak ?_ | refine zal ?_ | refine zbe ?_ | refine zan ?_ | refine zaw ?_ | refine zbj rfl ?_ | refine zbk rfl ?_ | refine zb2 ?_ | refine zb0 ?_ | refine zb1 ?_ | refine za4 ?_ | refine za2 rfl ?_ | refine za3 ?_ | refine za5 ?_ | refine zbn rfl ?_ | refine zbq rfl rfl ?_ | refine zbu rfl ?_ | refine zao rfl ?_ | refine zav rfl rfl ?_ | refine zap rfl rfl rfl rfl ?_ | refine zam rfl rfl rfl rfl rfl rfl rfl ?_ | refine za7 rfl ?_ | refine zae rfl rfl rfl ?_ | refine za0 rfl rfl rfl ?_ | refine zab rfl rfl rfl rfl ?_ | refine zaq ?_ | refine zaj rfl rfl ?_ | refine zac rfl rfl ?_ | refine zbs rfl rfl ?_ | refine zbf rfl rfl ?_ | refine zay rfl rfl ?_ | refine zad rfl rfl ?_ | refine zbd rfl rfl ?_ | refine zaa rfl rfl rfl ?_ | refine zau rfl rfl ?_ | refine zah rfl rfl rfl rfl ?_ | refine za8 rfl rfl rfl rfl ?_ | refine zag rfl rfl rfl rfl ?_ | refine zb8 rfl rfl ?_ | refine zb5 rfl rfl ?_ | refine za9 rfl rfl ?_ | refine zb9 ?_ | refine zai env0_ok rfl rfl rfl ?_ | refine zas (op := .add) rfl rfl rfl ?_ | refine zas (op := .sub) rfl rfl rfl ?_ | refine zb7 rfl rfl rfl ?_ | refine zb6 rfl rfl rfl ?_ | refine zb3 rfl rfl rfl ?_ | refine zaz rfl rfl rfl ?_ | refine zb4 rfl rfl (by omega) (by assumption) rfl ?_ | refine za0 rfl rfl (decide_eq_true ⟨by omega, by omega⟩) ?_ | refine zax rfl rfl (by omega) (by omega) ?_ | refine zaf rfl rfl rfl ?_ | refine zbb rfl ?_ | refine zba rfl ?_)
     rw [zc2 i (by omega)]
     exact zcg (show n - (i + 1) < n - i by omega) (zbm (.cons rfl (.cons rfl (.cons rfl (.cons rfl (.cons rfl (.cons rfl (.cons rfl (.cons rfl (.cons rfl (.cons rfl .nil))))))))))) ⟨i + 1, w2, rfl, hit, hw2, hpre2, rfl⟩
    ·have hie : i = n := by
      have h5 : ¬ ((i : Nat) : Int) < ((n : Nat) : Int) := of_decide_eq_false h5
      omega
     rw [hie] at hpre
     obtain rfl := eq_ptB hw hpre
     generalize ptB n k = pt at *
     repeat (first | refine zar ?_ | refine za1 rfl ?_ | refine zak ?_ | refine zal ?_ | refine zbe ?_ | refine zan ?_ | refine zaw ?_ | refine zbj rfl ?_ | refine zbk rfl ?_ | refine zb2 ?_ | refine zb0 ?_ | refine zb1 ?_ | refine za4 ?_ | refine za2 rfl ?_ | refine za3 ?_ | refine za5 ?_ | refine zbn rfl ?_ | refine zbq rfl rfl ?_ | refine zbu rfl ?_ | refine zao rfl ?_ | refine zav rfl rfl ?_ | refine zap rfl rfl rfl rfl ?_ | refine zam rfl rfl rfl rfl rfl rfl rfl ?_ | refine za7 rfl ?_ | refine zae rfl rfl rfl ?_ | refine za0 rfl rfl rfl ?_ | refine zab rfl rfl rfl rfl ?_ | refine zaq ?_ | refine zaj rfl rfl ?_ | refine zac rfl rfl ?_ | refine zbs rfl rfl ?_ | refine zbf rfl rfl ?_ | refine zay rfl rfl ?_ | refine zad rfl rfl ?_ | refine zbd rfl rfl ?_ | refine zaa rfl rfl rfl ?_ | refine zau rfl rfl ?_ | refine zah rfl rfl rfl rfl ?_ | refine za8 rfl rfl rfl rfl ?_ | refine zag rfl rfl rfl rfl ?_ | refine zb8 rfl rfl ?_ | refine zb5 rfl rfl ?_ | refine za9 rfl rfl ?_ | refine zb9 ?_ | refine zai env0_ok rfl rfl rfl ?_ | refine zas (op := .add) rfl rfl rfl ?_ | refine zas (op := .sub) rfl rfl rfl ?_ | refine zb7 rfl rfl rfl ?_ | refine zb6 rfl rfl rfl ?_ | refine zb3 rfl rfl rfl ?_ | refine zaz rfl rfl rfl ?_ | refine zb4 rfl rfl (by omega) (by assumption) rfl ?_ | refine za0 rfl rfl (decide_eq_true ⟨by omega, by omega⟩) ?_ | refine zax rfl rfl (by omega) (by omega) ?_ | refine zaf rfl rfl rfl ?_ | refine zbb rfl ?_ | refine zba rfl ?_)
     refine zev ?_
     repeat (first | refine zar ?_ | refine za1 rfl ?_ | refine zak ?_ | refine zal ?_ | refine zbe ?_ | refine zan ?_ | refine zaw ?_ | refine zbj rfl ?_ | refine zbk rfl ?_ | refine zb2 ?_ | refine zb0 ?_ | refine zb1 ?_ | refine za4 ?_ | refine za2 rfl ?_ | refine za3 ?_ | refine za5 ?_ | refine zbn rfl ?_ | refine zbq rfl rfl ?_ | refine zbu rfl ?_ | refine zao rfl ?_ | refine zav rfl rfl ?_ | refine zap rfl rfl rfl rfl ?_ | refine zam rfl rfl rfl rfl rfl rfl rfl ?_ | refine za7 rfl ?_ | refine zae rfl rfl rfl ?_ | refine za0 rfl rfl rfl ?_ | refine zab rfl rfl rfl rfl ?_ | refine zaq ?_ | refine zaj rfl rfl ?_ | refine zac rfl rfl ?_ | refine zbs rfl rfl ?_ | refine zbf rfl rfl ?_ | refine zay rfl rfl ?_ | refine zad rfl rfl ?_ | refine zbd rfl rfl ?_ | refine zaa rfl rfl rfl ?_ | refine zau rfl rfl ?_ | refine zah rfl rfl rfl rfl ?_ | refine za8 rfl rfl rfl rfl ?_ | refine zag rfl rfl rfl rfl ?_ | refine zb8 rfl rfl ?_ | refine zb5 rfl rfl ?_ | refine za9 rfl rfl ?_ | refine zb9 ?_ | refine zai env0_ok rfl rfl rfl ?_ | refine zas (op := .add) rfl rfl rfl ?_ | refine zas (op := .sub) rfl rfl rfl ?_ | refine zb7 rfl rfl rfl ?_ | refine zb6 rfl rfl rfl ?_ | refine zb3 rfl rfl rfl ?_ | refine zaz rfl rfl rfl ?_ | refine zb4 rfl rfl (by omega) (by assumption) rfl ?_ | refine za0 rfl rfl (decide_eq_true ⟨by omega, by omega⟩) ?_ | refine zax rfl rfl (by omega) (by omega) ?_ | refine zaf rfl rfl rfl ?_ | refine zbb rfl ?_ | refine zba rfl ?_)
     refine zbp rfl (zjl rfl (zsk (d := 6) pt hw rfl)) p53 (fun _ => rfl) ?_
     repeat (first | refine zar ?_ | refine za1 rfl ?_ | refine zak ?_ | refine zal ?_ | refine zbe ?_ | refine zan ?_ | refine zaw ?_ | refine zbj rfl ?_ | refine zbk rfl ?_ | refine zb2 ?_ | refine zb0 ?_ | refine zb1 ?_ | refine za4 ?_ | refine za2 rfl ?_ | refine za3 ?_ | refine za5 ?_ | refine zbn rfl ?_ | refine zbq rfl rfl ?_ | refine zbu rfl ?_ | refine zao rfl ?_ | refine zav rfl rfl ?_ | refine zap rfl rfl rfl rfl ?_ | refine zam rfl rfl rfl rfl rfl rfl rfl ?_ | refine za7 rfl ?_ | refine zae rfl rfl rfl ?_ | refine za0 rfl rfl rfl ?_ | refine zab rfl rfl rfl rfl ?_ | refine zaq ?_ | refine zaj rfl rfl ?_ | refine zac rfl rfl ?_ | refine zbs rfl rfl ?_ | refine zbf rfl rfl ?_ | refine zay rfl rfl ?_ | refine zad rfl rfl ?_ | refine zbd rfl rfl ?_ | refine zaa rfl rfl rfl ?_ | refine zau rfl rfl ?_ | refine zah rfl rfl rfl rfl ?_ | refine za8 rfl rfl rfl rfl ?_ | refine zag rfl rfl rfl rfl ?_ | refine zb8 rfl rfl ?_ | refine zb5 rfl rfl ?_ | refine za9 rfl rfl ?_ | refine zb9 ?_ | refine zai env0_ok rfl rfl rfl ?_ | refine zas (op := .add) rfl rfl rfl ?_ | refine zas (op := .sub) rfl rfl rfl ?_ | refine zb7 rfl rfl rfl ?_ | refine zb6 rfl rfl rfl ?_ | refine zb3 rfl rfl rfl ?_ | refine zaz rfl rfl rfl ?_ | refine zb4 rfl rfl (by omega) (by assumption) rfl ?_ | refine za0 rfl rfl (decide_eq_true ⟨by omega, by omega⟩) ?_ | refine zax rfl rfl (by omega) (by omega) ?_ | refine zaf rfl rfl rfl ?_ | refine zbb rfl ?_ | refine zba rfl ?_)
     generalize B k = bk at *
     cases bk with
     | false =>
      rw [if_neg Bool.false_ne_true] at hTk
      repeat (first | refine zar ?_ | refine za1 rfl ?_ | refine zak ?_ | refine zal ?_ | refine zbe ?_ | refine zan ?_ | refine zaw ?_ | refine zbj rfl ?_ | refine zbk rfl ?_ | refine zb2 ?_ | refine zb0 ?_ | refine zb1 ?_ | refine za4 ?_ | refine za2 rfl ?_ | refine za3 ?_ | refine za5 ?_ | refine zbn rfl ?_ | refine zbq rfl rfl ?_ | refine zbu rfl ?_ | refine zao rfl ?_ | refine zav rfl rfl ?_ | refine zap rfl rfl rfl rfl ?_ | refine zam rfl rfl rfl rfl rfl rfl rfl ?_ | refine za7 rfl ?_ | refine zae rfl rfl rfl ?_ | refine za0 rfl rfl rfl ?_ | refine zab rfl rfl rfl rfl ?_ | refine zaq ?_ | refine zaj rfl rfl ?_ | refine zac rfl rfl ?_ | refine zbs rfl rfl ?_ | refine zbf rfl rfl ?_ | refine zay rfl rfl ?_ | refine zad rfl rfl ?_ | refine zbd rfl rfl ?_ | refine zaa rfl rfl rfl ?_ | refine zau rfl rfl ?_ | refine zah rfl rfl rfl rfl ?_ | refine za8 rfl rfl rfl rfl ?_ | refine zag rfl rfl rfl rfl ?_ | refine zb8 rfl rfl ?_ | refine zb5 rfl rfl ?_ | refine za9 rfl rfl ?_ | refine zb9 ?_ | refine zai env0_ok rfl rfl rfl ?_ | refine zas (op := .add) rfl rfl rfl ?_ | refine zas (op := .sub) rfl rfl rfl ?_ | refine zb7 rfl rfl rfl ?_ | refine zb6 rfl rfl rfl ?_ | refine zb3 rfl rfl rfl ?_ | refine zaz rfl rfl rfl ?_ | refine zb4 rfl rfl (by omega) (by assumption) rfl ?_ | refine za0 rfl rfl (decide_eq_true ⟨by omega, by omega⟩) ?_ | refine zax rfl rfl (by omega) (by omega) ?_ | refine zaf rfl rfl rfl ?_ | refine zbb rfl ?_ | refine zba rfl ?_)
      rw [zc2 k (by omega)]
      exact zcg (show 2 ^ n - (k + 1) < 2 ^ n - k by omega) (zbm (.cons rfl (.cons rfl (.cons rfl (.cons rfl (.cons rfl (.cons rfl (.cons rfl .nil)))))))) ⟨k + 1, pt, rfl, hlt, hw, by rw [hTk]⟩
     | true =>
      rw [if_pos rfl] at hTk
      repeat (first | refine zar ?_ | refine za1 rfl ?_ | refine zak ?_ | refine zal ?_ | refine zbe ?_ | refine zan ?_ | refine zaw ?_ | refine zbj rfl ?_ | refine zbk rfl ?_ | refine zb2 ?_ | refine zb0 ?_ | refine zb1 ?_ | refine za4 ?_ | refine za2 rfl ?_ | refine za3 ?_ | refine za5 ?_ | refine zbn rfl ?_ | refine zbq rfl rfl ?_ | refine zbu rfl ?_ | refine zao rfl ?_ | refine zav rfl rfl ?_ | refine zap rfl rfl rfl rfl ?_ | refine zam rfl rfl rfl rfl rfl rfl rfl ?_ | refine za7 rfl ?_ | refine zae rfl rfl rfl ?_ | refine za0 rfl rfl rfl ?_ | refine zab rfl rfl rfl rfl ?_ | refine zaq ?_ | refine zaj rfl rfl ?_ | refine zac rfl rfl ?_ | refine zbs rfl rfl ?_ | refine zbf rfl rfl ?_ | refine zay rfl rfl ?_ | refine zad rfl rfl ?_ | refine zbd rfl rfl ?_ | refine zaa rfl rfl rfl ?_ | refine zau rfl rfl ?_ | refine zah rfl rfl rfl rfl ?_ | refine za8 rfl rfl rfl rfl ?_ | refine zag rfl rfl rfl rfl ?_ | refine zb8 rfl rfl ?_ | refine zb5 rfl rfl ?_ | refine za9 rfl rfl ?_ | refine zb9 ?_ | refine zai env0_ok rfl rfl rfl ?_ | refine zas (op := .add) rfl rfl rfl ?_ | refine zas (op := .sub) rfl rfl rfl ?_ | refine zb7 rfl rfl rfl ?_ | refine zb6 rfl rfl rfl ?_ | refine zb3 rfl rfl rfl ?_ | refine zaz rfl rfl rfl ?_ | refine zb4 rfl rfl (by omega) (by assumption) rfl ?_ | refine za0 rfl rfl (decide_eq_true ⟨by omega, by omega⟩) ?_ | refine zax rfl rfl (by omega) (by omega) ?_ | refine zaf rfl rfl rfl ?_ | refine zbb rfl ?_ | refine zba rfl ?_)
      refine zas rfl rfl (bin_shlU 1#64 (n := k) (by omega)) ?_
      refine zas rfl rfl (bin_or _ _) ?_
      rw [← hTk]
      repeat (first | refine zar ?_ | refine za1 rfl ?_ | refine zak ?_ | refine zal ?_ | refine zbe ?_ | refine zan ?_ | refine zaw ?_ | refine zbj rfl ?_ | refine zbk rfl ?_ | refine zb2 ?_ | refine zb0 ?_ | refine zb1 ?_ | refine za4 ?_ | refine za2 rfl ?_ | refine za3 ?_ | refine za5 ?_ | refine zbn rfl ?_ | refine zbq rfl rfl ?_ | refine zbu rfl ?_ | refine zao rfl ?_ | refine zav rfl rfl ?_ | refine zap rfl rfl rfl rfl ?_ | refine zam rfl rfl rfl rfl rfl rfl rfl ?_ | refine za7 rfl ?_ | refine zae rfl rfl rfl ?_ | refine za0 rfl rfl rfl ?_ | refine zab rfl rfl rfl rfl ?_ | refine zaq ?_ | refine zaj rfl rfl ?_ | refine zac rfl rfl ?_ | refine zbs rfl rfl ?_ | refine zbf rfl rfl ?_ | refine zay rfl rfl ?_ | refine zad rfl rfl ?_ | refine zbd rfl rfl ?_ | refine zaa rfl rfl rfl ?_ | refine zau rfl rfl ?_ | refine zah rfl rfl rfl rfl ?_ | refine za8 rfl rfl rfl rfl ?_ | refine zag rfl rfl rfl rfl ?_ | refine zb8 rfl rfl ?_ | refine zb5 rfl rfl ?_ | refine za9 rfl rfl ?_ | refine zb9 ?_ | refine zai env0_ok rfl rfl rfl ?_ | refine zas (op := .add) rfl rfl rfl ?_ | refine zas (op := .sub) rfl rfl rfl ?_ | refine zb7 rfl rfl rfl ?_ | refine zb6 rfl rfl rfl ?_ | refine zb3 rfl rfl rfl ?_ | refine zaz rfl rfl rfl ?_ | refine zb4 rfl rfl (by omega) (by assumption) rfl ?_ | refine za0 rfl rfl (decide_eq_true ⟨by omega, by omega⟩) ?_ | refine zax rfl rfl (by omega) (by omega) ?_ | refine zaf rfl rfl rfl ?_ | refine zbb rfl ?_ | refine zba rfl ?_)
      rw [zc2 k (by omega)]
      exact zcg (show 2 ^ n - (k + 1) < 2 ^ n - k by omega) (zbm (.cons rfl (.cons rfl (.cons rfl (.cons rfl (.cons rfl (.cons rfl (.cons rfl .nil)))))))) ⟨k + 1, pt, rfl, hlt, hw, rfl⟩
   ·have hi2 : k = 2 ^ n := by
     have h4 : ¬ ((k : Nat) : Int) < ((2 ^ n : Nat) : Int) := of_decide_eq_false h4
     omega
    subst hi2
    repeat (first | refine zar ?_ | refine za1 rfl ?_ | refine zak ?_ | refine zal ?_ | refine zbe ?_ | refine zan ?_ | refine zaw ?_ | refine zbj rfl ?_ | refine zbk rfl ?_ | refine zb2 ?_ | refine zb0 ?_ | refine zb1 ?_ | refine za4 ?_ | refine za2 rfl ?_ | refine za3 ?_ | refine za5 ?_ | refine zbn rfl ?_ | refine zbq rfl rfl ?_ | refine zbu rfl ?_ | refine zao rfl ?_ | refine zav rfl rfl ?_ | refine zap rfl rfl rfl rfl ?_ | refine zam rfl rfl rfl rfl rfl rfl rfl ?_ | refine za7 rfl ?_ | refine zae rfl rfl rfl ?_ | refine za0 rfl rfl rfl ?_ | refine zab rfl rfl rfl rfl ?_ | refine zaq ?_ | refine zaj rfl rfl ?_ | refine zac rfl rfl ?_ | refine zbs rfl rfl ?_ | refine zbf rfl rfl ?_ | refine zay rfl rfl ?_ | refine zad rfl rfl ?_ | refine zbd rfl rfl ?_ | refine zaa rfl rfl rfl ?_ | refine zau rfl rfl ?_ | refine zah rfl rfl rfl rfl ?_ | refine za8 rfl rfl rfl rfl ?_ | refine zag rfl rfl rfl rfl ?_ | refine zb8 rfl rfl ?_ | refine zb5 rfl rfl ?_ | refine za9 rfl rfl ?_ | refine zb9 ?_ | refine zai env0_ok rfl rfl rfl ?_ | refine zas (op := .add) rfl rfl rfl ?_ | refine zas (op := .sub) rfl rfl rfl ?_ | refine zb7 rfl rfl rfl ?_ | refine zb6 rfl rfl rfl ?_ | refine zb3 rfl rfl rfl ?_ | refine zaz rfl rfl rfl ?_ | refine zb4 rfl rfl (by omega) (by assumption) rfl ?_ | refine za0 rfl rfl (decide_eq_true ⟨by omega, by omega⟩) ?_ | refine zax rfl rfl (by omega) (by omega) ?_ | refine zaf rfl rfl rfl ?_ | refine zbb rfl ?_ | refine zba rfl ?_)
    refine zev ?_
    repeat (first | refine zar ?_ | refine za1 rfl ?_ | refine zak ?_ | refine zal ?_ | refine zbe ?_ | refine zan ?_ | refine zaw ?_ | refine zbj rfl ?_ | refine zbk rfl ?_ | refine zb2 ?_ | refine zb0 ?_ | refine zb1 ?_ | refine za4 ?_ | refine za2 rfl ?_ | refine za3 ?_ | refine za5 ?_ | refine zbn rfl ?_ | refine zbq rfl rfl ?_ | refine zbu rfl ?_ | refine zao rfl ?_ | refine zav rfl rfl ?_ | refine zap rfl rfl rfl rfl ?_ | refine zam rfl rfl rfl rfl rfl rfl rfl ?_ | refine za7 rfl ?_ | refine zae rfl rfl rfl ?_ | refine za0 rfl rfl rfl ?_ | refine zab rfl rfl rfl rfl ?_ | refine zaq ?_ | refine zaj rfl rfl ?_ | refine zac rfl rfl ?_ | refine zbs rfl rfl ?_ | refine zbf rfl rfl ?_ | refine zay rfl rfl ?_ | refine zad rfl rfl ?_ | refine zbd rfl rfl ?_ | refine zaa rfl rfl rfl ?_ | refine zau rfl rfl ?_ | refine zah rfl rfl rfl rfl ?_ | refine za8 rfl rfl rfl rfl ?_ | refine zag rfl rfl rfl rfl ?_ | refine zb8 rfl rfl ?_ | refine zb5 rfl rfl ?_ | refine za9 rfl rfl ?_ | refine zb9 ?_ | refine zai env0_ok rfl rfl rfl ?_ | refine zas (op := .add) rfl rfl rfl ?_ | refine zas (op := .sub) rfl rfl rfl ?_ | refine zb7 rfl rfl rfl ?_ | refine zb6 rfl rfl rfl ?_ | refine zb3 rfl rfl rfl ?_ | refine zaz rfl rfl rfl ?_ | refine zb4 rfl rfl (by omega) (by assumption) rfl ?_ | refine za0 rfl rfl (decide_eq_true ⟨by omega, by omega⟩) ?_ | refine zax rfl rfl (by omega) (by omega) ?_ | refine zaf rfl rfl rfl ?_ | refine zbb rfl ?_ | refine zba rfl ?_)
    exact zbh ⟨.inr rfl, _, rfl, rfl⟩
end Go.Proofs.Ytmnkjofaodbokaa
namespace Go.Proofs.Ytmnkjofaodbokaa
open Go Go.Am
theorem asc_eq : ∀ {a b : List Int}, a.Pairwise (· < ·) → b.Pairwise (· < ·) → (∀ x, x ∈ a ↔ x ∈ b) → a = b
 | [], [], _, _, _ => rfl
 | [], y :: b, _, _, h => absurd ((h y).2 (List.mem_cons_self ..)) List.not_mem_nil
 | x :: a, [], _, _, h => absurd ((h x).1 (List.mem_cons_self ..)) List.not_mem_nil
 | x :: a, y :: b, ha, hb, h => by
  obtain ⟨a1, a2⟩ := List.pairwise_cons.1 ha
  obtain ⟨b1, b2⟩ := List.pairwise_cons.1 hb
  have hxy : x = y := by
   have h1 := (h x).1 (List.mem_cons_self ..)
   have h2 := (h y).2 (List.mem_cons_self ..)
   rcases List.mem_cons.1 h1 with e | h1
   ·exact e
   ·rcases List.mem_cons.1 h2 with e | h2
    ·exact e.symm
    ·have := a1 y h2
     have := b1 x h1
     omega
  subst hxy
  rw [asc_eq a2 b2 fun z => ?_]
  constructor
  ·intro hz
   rcases List.mem_cons.1 ((h z).1 (List.mem_cons_of_mem _ hz)) with e | hz2
   ·have := a1 z hz; omega
   ·exact hz2
  ·intro hz
   rcases List.mem_cons.1 ((h z).2 (List.mem_cons_of_mem _ hz)) with e | hz2
   ·have := b1 z hz; omega
   ·exact hz2
theorem zl8 : ∀ {l : List Int} {p z : Int}, z ∈ p :: zq5 p l ↔ z ∈ p :: l
 | [], _, _ => Iff.rfl
 | y :: l, p, z => by
  rw [zq5]
  split
  ·rename_i e
   rw [zl8 (l := l), List.mem_cons, List.mem_cons, List.mem_cons, e]
   constructor
   ·rintro (h | h)
    ·exact .inl h
    ·exact .inr (.inr h)
   ·rintro (h | h | h)
    ·exact .inl h
    ·exact .inl h
    ·exact .inr h
  ·have := zl8 (l := l) (p := y) (z := z)
   rw [List.mem_cons, this, List.mem_cons, List.mem_cons, List.mem_cons]
theorem zl7 : ∀ {l : List Int} {p : Int}, (p :: l).Pairwise (· ≤ ·) → (p :: zq5 p l).Pairwise (· < ·)
 | [], _, _ => List.pairwise_singleton ..
 | y :: l, p, h => by
  obtain ⟨h1, h2⟩ := List.pairwise_cons.1 h
  rw [zq5]
  split
  ·rename_i e
   subst e
   exact zl7 h2
  ·rename_i e
   have ih := zl7 h2
   rw [List.pairwise_cons]
   refine ⟨fun z hz => ?_, ih⟩
   have hy := h1 y (List.mem_cons_self ..)
   rcases List.mem_cons.1 hz with rfl | hz2
   ·omega
   ·have := (List.pairwise_cons.1 ih).1 z hz2
    omega
theorem cpt_asc {l : List Int} (h : l.Pairwise (· ≤ ·)) : (cpt l).Pairwise (· < ·) := by
 cases l with
 | nil => exact List.Pairwise.nil
 | cons x l => exact zl7 h
theorem cpt_mem {l : List Int} {z : Int} : z ∈ cpt l ↔ z ∈ l := by
 cases l with
 | nil => exact Iff.rfl
 | cons x l => exact zl8
mutual
theorem zod {n : Int} : ∀ x : Ex, nds n x = 0 → ∀ v, v ∈ zrv x ↔ zi4 v x = true
 | .nd op ix args => fun h v => by
  obtain ⟨h1, h2⟩ := zcv h
  rw [zrv, zi4, List.mem_append]
  by_cases ho : op = 1
  ·rw [if_pos ho, if_pos ho]
   have hk := zfd h1
   have ha : args = [] := List.length_eq_zero_iff.1 (by
    have := hk.2.2.2.1
    unfold zcf at this
    rw [if_neg (by omega), if_neg (by omega)] at this
    omega)
   subst ha
   rw [zmy, List.mem_singleton, decide_eq_true_eq]
   constructor
   ·rintro (e | e)
    ·exact e.symm
    ·cases e
   ·exact fun e => .inl e.symm
  ·rw [if_neg ho, if_neg ho]
   constructor
   ·rintro (e | e)
    ·cases e
    ·exact (zl5 args h2 v).1 e
   ·exact fun e => .inr ((zl5 args h2 v).2 e)
theorem zl5 {n : Int} : ∀ l : List Ex, (∀ y ∈ l, nds n y = 0) → ∀ v, v ∈ zmy l ↔ occL v l = true
 | [] => fun _ v => by rw [zmy, occL]; simp
 | y :: ys => fun h v => by
  rw [zmy, occL, List.mem_append, Bool.or_eq_true, zod y (h y (List.mem_cons_self ..)) v, zl5 ys (fun z hz => h z (List.mem_cons_of_mem _ hz)) v]
end
mutual
theorem ztp {n : Int} : ∀ x : Ex, nds n x = 0 → ∀ v ∈ zrv x, 0 ≤ v ∧ v < n
 | .nd op ix args => fun h v hv => by
  obtain ⟨h1, h2⟩ := zcv h
  rw [zrv, List.mem_append] at hv
  rcases hv with hv | hv
  ·split at hv
   ·rename_i ho
    obtain rfl := List.mem_singleton.1 hv
    have hk := zfd h1
    have hm := hk.2.2.2.2.2
    unfold zcb at hm
    rw [if_neg (by omega), if_pos ho] at hm
    exact ⟨hk.2.2.2.2.1, by omega⟩
   ·cases hv
  ·exact zq0 args h2 v hv
theorem zq0 {n : Int} : ∀ l : List Ex, (∀ y ∈ l, nds n y = 0) → ∀ v ∈ zmy l, 0 ≤ v ∧ v < n
 | [] => fun _ v hv => by rw [zmy] at hv; cases hv
 | y :: ys => fun h v hv => by
  rw [zmy, List.mem_append] at hv
  rcases hv with hv | hv
  ·exact ztp y (h y (List.mem_cons_self ..)) v hv
  ·exact zq0 ys (fun z hz => h z (List.mem_cons_of_mem _ hz)) v hv
end
theorem vars_eq {x : Ex} {n : Nat} (h : nds (n : Nat) x = 0) : varL x = zrd x n := by
 unfold varL
 rw [cps_eq]
 refine asc_eq (cpt_asc ?_) ?_ fun v => ?_
 ·have := List.pairwise_mergeSort (le := fun x y : Int => decide (x ≤ y)) (fun a b c h1 h2 => by rw [decide_eq_true_eq] at *; omega) (fun a b => by rw [Bool.or_eq_true, decide_eq_true_eq, decide_eq_true_eq]; omega) (zrv x)
  exact this.imp fun h => of_decide_eq_true h
 ·unfold zrd
  rw [List.pairwise_map]
  refine List.Pairwise.imp (R := fun a b : Nat => a < b) (fun h => by omega) (List.Pairwise.filter _ List.pairwise_lt_range)
 ·rw [cpt_mem]
  unfold srt
  rw [List.mem_mergeSort]
  unfold zrd
  rw [List.mem_map]
  constructor
  ·intro hv
   obtain ⟨b1, b2⟩ := ztp x h v hv
   obtain ⟨u, rfl⟩ := Int.eq_ofNat_of_zero_le b1
   exact ⟨u, List.mem_filter.2 ⟨List.mem_range.2 (by omega), (zod x h _).1 hv⟩, rfl⟩
  ·rintro ⟨u, hu, rfl⟩
   exact (zod x h _).2 (List.mem_filter.1 hu).2
theorem zwh (x : Ex) (n : Int) : varsP x n = varsV x n := by
 unfold varsP varsV
 by_cases h : zch x n = 0
 ·rw [if_pos h, if_pos h]
  have hn : 0 ≤ n := by
   unfold zch at h
   split at h <;> omega
  obtain ⟨m, rfl⟩ := Int.eq_ofNat_of_zero_le hn
  rw [vars_eq (znm h), Int.toNat_natCast]
 ·rw [if_neg h, if_neg h]
end Go.Proofs.Ytmnkjofaodbokaa
namespace Go.Proofs.Ytmnkjofaodbokaa
open Go Go.Am
-- slices.Clone[[]bool,bool]
theorem rem_nat (z : Int) (h0 : 0 ≤ z) {m : Nat} (hm : m ≠ 0) : Am.binOp .rem (.int .i64 z) (.int .i64 (m : Nat)) = some (.int .i64 ((z.toNat % m : Nat) : Int)) := by
 show (if ((m : Nat) : Int) = 0 then none else some (AV.int .i64 (Int.tmod z (m : Nat)))) = _
 rw [if_neg (by omega)]
 obtain ⟨u, rfl⟩ := Int.eq_ofNat_of_zero_le h0
 rfl
end Go.Proofs.Ytmnkjofaodbokaa
namespace Go.Proofs.Ytmnkjofaodbokaa
open Go Go.Am
theorem zwe {n : Nat} {x y : Ex} (h : ∀ v : List Bool, v.length = n → zbw v y = zbw v x) : ∀ k, tbB n y k = tbB n x k
 | 0 => rfl
 | k + 1 => by
  unfold tbB
  rw [h _ (zhk n k), zwe h k]
theorem eqX_refl (x : Ex) : eqX x x = true := (zld x x).2 rfl
theorem chk_simp {n : Nat} {x : Ex} (h : zch x (n : Nat) = 0) : zch (zcx x) (n : Nat) = 0 := by
 have h1 := znm h
 have h2 := zgo h
 have h3 := zs2 h1 h2
 obtain ⟨h4, _, _⟩ := zer _ x (Nat.le_refl _) h1 (zpz h)
 unfold zch at h ⊢
 split at h
 ·cases h
 ·rename_i hn
  rw [if_neg hn, if_pos h3]
  exact h4
def b7_0 : IC := .seq (.region [⟨(some 117), .bin .lss (.t 116) (.t 115), none⟩] none)
 (.seq (.cond (.t 117) (.skip)
 (.exit 0))
 (.seq (.block 1 (.seq (.region [⟨(some 118), .idxs 1 (.t 114) (.t 116), none⟩,
  ⟨(some 119), .load none (.t 118), none⟩,
  ⟨(some 25), .mov (.t 119), none⟩] none)
 (.seq (.region [⟨(some 120), .mov (.t 20), none⟩,
  ⟨(some 121), .mov (.t 25), none⟩,
  ⟨(some 122), .call (.c (.fn 29 [] [])) [(.t 120), (.t 121)], none⟩,
  ⟨(some 123), .un .not (.t 122), none⟩] none)
 (.cond (.t 123) (.seq (.region [⟨(some 4), .mov (.c (.bool false)), none⟩] none)
 (.ret))
 (.skip)))))
 (.region [⟨(some 124), .bin .add (.t 116) (.c (.int .i64 1)), none⟩,
  ⟨(some 116), .mov (.t 124), none⟩] none)))
-- pneumatic/pneumaticlaw05.BoolexpSimple
def ic7 : IC := .seq (.region [⟨(some 2), .box (.t 0), none⟩,
  ⟨(some 4), .mov (.c (.bool false)), none⟩] none)
 (.seq (.region [⟨(some 26), .mov (.t 1), none⟩,
  ⟨(some 27), .conv .i64 (.t 26), none⟩,
  ⟨(some 28), .bin .rem (.t 27) (.c (.int .i64 7)), none⟩,
  ⟨(some 5), .mov (.t 28), none⟩] none)
 (.seq (.seq (.region [⟨(some 29), .load (some 3) (.t 2), none⟩,
  ⟨(some 30), .mov (.t 5), none⟩,
  ⟨(some 31), .call (.c (.fn 11 [] [])) [(.t 29), (.t 30)], none⟩,
  ⟨(some 32), .un .not (.t 31), none⟩] none)
 (.cond (.t 32) (.seq (.region [⟨(some 33), .call (.c (.fn 13 [] [])) [], none⟩,
  ⟨(some 4), .mov (.t 33), none⟩] none)
 (.ret))
 (.skip)))
 (.seq (.region [⟨(some 35), .load (some 3) (.t 2), none⟩,
  ⟨(some 36), .mov (.t 5), none⟩,
  ⟨(some 37), .call (.c (.fn 23 [] [])) [(.t 35), (.t 36)], none⟩,
  ⟨(some 34), .mov (.t 37), none⟩,
  ⟨(some 38), .extract (.t 34) 0, none⟩,
  ⟨(some 39), .extract (.t 34) 1, none⟩,
  ⟨(some 6), .alloc [.int .i64 0, .int .i64 0, .nils], none⟩,
  ⟨none, .store 3 (.t 6) (.t 38), none⟩,
  ⟨(some 7), .mov (.t 39), none⟩] none)
 (.seq (.region [⟨(some 41), .load (some 3) (.t 6), none⟩,
  ⟨(some 42), .mov (.t 5), none⟩,
  ⟨(some 43), .call (.c (.fn 23 [] [])) [(.t 41), (.t 42)], none⟩,
  ⟨(some 40), .mov (.t 43), none⟩,
  ⟨(some 44), .extract (.t 40) 0, none⟩,
  ⟨(some 45), .extract (.t 40) 1, none⟩,
  ⟨(some 8), .alloc [.int .i64 0, .int .i64 0, .nils], none⟩,
  ⟨none, .store 3 (.t 8) (.t 44), none⟩,
  ⟨(some 9), .mov (.t 45), none⟩] none)
 (.seq (.region [⟨(some 47), .load (some 3) (.t 2), none⟩,
  ⟨(some 48), .mov (.t 5), none⟩,
  ⟨(some 49), .call (.c (.fn 20 [] [])) [(.t 47), (.t 48)], none⟩,
  ⟨(some 46), .mov (.t 49), none⟩,
  ⟨(some 50), .extract (.t 46) 0, none⟩,
  ⟨(some 51), .extract (.t 46) 1, none⟩,
  ⟨(some 10), .alloc [.int .i64 0, .int .u64 0], none⟩,
  ⟨none, .store 2 (.t 10) (.t 50), none⟩,
  ⟨(some 11), .mov (.t 51), none⟩] none)
 (.seq (.region [⟨(some 53), .load (some 3) (.t 6), none⟩,
  ⟨(some 54), .mov (.t 5), none⟩,
  ⟨(some 55), .call (.c (.fn 20 [] [])) [(.t 53), (.t 54)], none⟩,
  ⟨(some 52), .mov (.t 55), none⟩,
  ⟨(some 56), .extract (.t 52) 0, none⟩,
  ⟨(some 57), .extract (.t 52) 1, none⟩,
  ⟨(some 12), .alloc [.int .i64 0, .int .u64 0], none⟩,
  ⟨none, .store 2 (.t 12) (.t 56), none⟩,
  ⟨(some 13), .mov (.t 57), none⟩] none)
 (.seq (.region [⟨(some 59), .load (some 3) (.t 2), none⟩,
  ⟨(some 60), .call (.c (.fn 27 [] [])) [(.t 59)], none⟩,
  ⟨(some 58), .mov (.t 60), none⟩,
  ⟨(some 61), .extract (.t 58) 0, none⟩,
  ⟨(some 62), .extract (.t 58) 1, none⟩,
  ⟨(some 63), .extract (.t 58) 2, none⟩,
  ⟨(some 14), .mov (.t 61), none⟩,
  ⟨(some 15), .mov (.t 62), none⟩,
  ⟨(some 16), .mov (.t 63), none⟩] none)
 (.seq (.region [⟨(some 65), .load (some 3) (.t 6), none⟩,
  ⟨(some 66), .call (.c (.fn 27 [] [])) [(.t 65)], none⟩,
  ⟨(some 64), .mov (.t 66), none⟩,
  ⟨(some 67), .extract (.t 64) 0, none⟩,
  ⟨(some 68), .extract (.t 64) 1, none⟩,
  ⟨(some 69), .extract (.t 64) 2, none⟩,
  ⟨(some 17), .mov (.t 67), none⟩,
  ⟨(some 18), .mov (.t 68), none⟩,
  ⟨(some 19), .mov (.t 69), none⟩] none)
 (.seq (.region [⟨(some 71), .load (some 3) (.t 2), none⟩,
  ⟨(some 72), .mov (.t 5), none⟩,
  ⟨(some 73), .call (.c (.fn 28 [] [])) [(.t 71), (.t 72)], none⟩,
  ⟨(some 70), .mov (.t 73), none⟩,
  ⟨(some 74), .extract (.t 70) 0, none⟩,
  ⟨(some 75), .extract (.t 70) 1, none⟩,
  ⟨(some 20), .mov (.t 74), none⟩,
  ⟨(some 21), .mov (.t 75), none⟩] none)
 (.seq (.region [⟨(some 77), .load (some 3) (.t 6), none⟩,
  ⟨(some 78), .mov (.t 5), none⟩,
  ⟨(some 79), .call (.c (.fn 28 [] [])) [(.t 77), (.t 78)], none⟩,
  ⟨(some 76), .mov (.t 79), none⟩,
  ⟨(some 80), .extract (.t 76) 0, none⟩,
  ⟨(some 81), .extract (.t 76) 1, none⟩,
  ⟨(some 22), .mov (.t 80), none⟩,
  ⟨(some 23), .mov (.t 81), none⟩] none)
 (.seq (.seq (.region [⟨(some 82), .mov (.t 7), none⟩,
  ⟨(some 83), .mov (.t 9), none⟩,
  ⟨(some 84), .bin .add (.t 82) (.t 83), none⟩,
  ⟨(some 85), .mov (.t 11), none⟩,
  ⟨(some 86), .bin .add (.t 84) (.t 85), none⟩,
  ⟨(some 87), .mov (.t 13), none⟩,
  ⟨(some 88), .bin .add (.t 86) (.t 87), none⟩,
  ⟨(some 89), .mov (.t 16), none⟩,
  ⟨(some 90), .bin .add (.t 88) (.t 89), none⟩,
  ⟨(some 91), .mov (.t 19), none⟩,
  ⟨(some 92), .bin .add (.t 90) (.t 91), none⟩,
  ⟨(some 93), .mov (.t 21), none⟩,
  ⟨(some 94), .bin .add (.t 92) (.t 93), none⟩,
  ⟨(some 95), .mov (.t 23), none⟩,
  ⟨(some 96), .bin .add (.t 94) (.t 95), none⟩,
  ⟨(some 97), .bin .neq (.t 96) (.c (.int .i64 0)), none⟩,
  ⟨(some 98), .mov (.t 97), none⟩,
  ⟨(some 99), .load (some 2) (.t 10), some (98, false)⟩,
  ⟨(some 100), .load (some 2) (.t 12), some (98, false)⟩,
  ⟨(some 101), .eqs true [(0, .int), (1, .int)] (.t 99) (.t 100), some (98, false)⟩,
  ⟨(some 102), .pick (.t 98) (.c (.bool true)) (.t 101), none⟩,
  ⟨(some 103), .mov (.t 102), none⟩,
  ⟨(some 104), .load (some 3) (.t 6), some (103, false)⟩,
  ⟨(some 105), .load (some 3) (.t 8), some (103, false)⟩,
  ⟨(some 106), .call (.c (.fn 16 [] [])) [(.t 104), (.t 105)], some (103, false)⟩,
  ⟨(some 107), .un .not (.t 106), some (103, false)⟩,
  ⟨(some 108), .pick (.t 103) (.c (.bool true)) (.t 107), none⟩,
  ⟨(some 109), .mov (.t 108), none⟩,
  ⟨(some 110), .mov (.t 17), some (109, false)⟩,
  ⟨(some 111), .mov (.t 14), some (109, false)⟩,
  ⟨(some 112), .bin .gtr (.t 110) (.t 111), some (109, false)⟩,
  ⟨(some 113), .pick (.t 109) (.c (.bool true)) (.t 112), none⟩] none)
 (.cond (.t 113) (.seq (.region [⟨(some 4), .mov (.c (.bool false)), none⟩] none)
 (.ret))
 (.skip)))
 (.seq (.seq (.region [⟨(some 114), .mov (.t 22), none⟩,
  ⟨(some 115), .len false (.t 114), none⟩,
  ⟨(some 116), .mov (.c (.int .i64 0)), none⟩] none)
 (.block 0 (.loop b7_0)))
 (.seq (.region [⟨(some 125), .call (.c (.fn 13 [] [])) [], none⟩,
  ⟨(some 4), .mov (.t 125), none⟩] none)
 (.ret))))))))))))))
theorem fn7 : env0.fn 7 = some ⟨126, ic7, [.t 4]⟩ := by kernel_rfl
set_option maxRecDepth 100000 in
set_option maxHeartbeats 8000000 in
theorem law7 (x : Ex) (hs : Slim x) (a : Int) (ha : 0 ≤ a ∧ a ≤ 255) : PF Try.prog 7 [.agg (cX x), .int .u8 a] (.bool true) := by
 obtain ⟨kk, hk, hrem⟩ : ∃ k : Nat, k < 7 ∧ Am.binOp .rem (.int .i64 a) (.int .i64 7) = some (.int .i64 (k : Nat)) :=
  ⟨a.toNat % 7, Nat.mod_lt _ (by decide), rem_nat (m := 7) a ha.1 (by decide)⟩
 have p11 := right11 x hs (kk : Nat)
 have w1 : IntKind.wrap .i64 a = a := wrap_in _ (by omega) (by omega)
 obtain ⟨op, ix, args⟩ := x
 refine zbv env0_ok fn7 [(0, .agg (cX (.nd op ix args))), (1, .int .u8 a)] (by show 2 ≤ 126; decide) rfl fun w0 N0 => ?_
 unfold ic7
 refine zar (za1 rfl (zbd rfl rfl (zao rfl (zak (zal ?_)))))
 refine zct [] [(0, 0, cX (.nd op ix args))] [(1, .int .u8 a), (2, .vptr (cX (.nd op ix args)))] rfl (.cons rfl rfl .nil) .nil (.cons rfl (.same rfl) (.cons rfl (.fptr rfl rfl) .nil)) ?_
 repeat (first | refine zar ?_ | refine za1 rfl ?_ | refine zak ?_ | refine zal ?_ | refine zbe ?_ | refine zan ?_ | refine zaw ?_ | refine zbj rfl ?_ | refine zbk rfl ?_ | refine zb2 ?_ | refine zb0 ?_ | refine zb1 ?_ | refine za4 ?_ | refine za2 rfl ?_ | refine za3 ?_ | refine za5 ?_ | refine zbn rfl ?_ | refine zbq rfl rfl ?_ | refine zbu rfl ?_ | refine zao rfl ?_ | refine zav rfl rfl ?_ | refine zap rfl rfl rfl rfl ?_ | refine zam rfl rfl rfl rfl rfl rfl rfl ?_ | refine za7 rfl ?_ | refine zae rfl rfl rfl ?_ | refine za0 rfl rfl rfl ?_ | refine zab rfl rfl rfl rfl ?_ | refine zaq ?_ | refine zaj rfl rfl ?_ | refine zac rfl rfl ?_ | refine zbs rfl rfl ?_ | refine zbf rfl rfl ?_ | refine zay rfl rfl ?_ | refine zad rfl rfl ?_ | refine zbd rfl rfl ?_ | refine zaa rfl rfl rfl ?_ | refine zau rfl rfl ?_ | refine zah rfl rfl rfl rfl ?_ | refine za8 rfl rfl rfl rfl ?_ | refine zag rfl rfl rfl rfl ?_ | refine zb8 rfl rfl ?_ | refine zb5 rfl rfl ?_ | refine za9 rfl rfl ?_ | refine zb9 ?_ | refine zai env0_ok rfl rfl rfl ?_ | refine zas (op := .add) rfl rfl rfl ?_ | refine zas (op := .sub) rfl rfl rfl ?_ | refine zb7 rfl rfl rfl ?_ | refine zb6 rfl rfl rfl ?_ | refine zb3 rfl rfl rfl ?_ | refine zaz rfl rfl rfl ?_ | refine zb4 rfl rfl (by omega) (by assumption) rfl ?_ | refine za0 rfl rfl (decide_eq_true ⟨by omega, by omega⟩) ?_ | refine zax rfl rfl (by omega) (by omega) ?_ | refine zaf rfl rfl rfl ?_ | refine zbb rfl ?_ | refine zba rfl ?_)
 rw [w1]
 refine zas rfl rfl hrem ?_
 repeat (first | refine zar ?_ | refine za1 rfl ?_ | refine zak ?_ | refine zal ?_ | refine zbe ?_ | refine zan ?_ | refine zaw ?_ | refine zbj rfl ?_ | refine zbk rfl ?_ | refine zb2 ?_ | refine zb0 ?_ | refine zb1 ?_ | refine za4 ?_ | refine za2 rfl ?_ | refine za3 ?_ | refine za5 ?_ | refine zbn rfl ?_ | refine zbq rfl rfl ?_ | refine zbu rfl ?_ | refine zao rfl ?_ | refine zav rfl rfl ?_ | refine zap rfl rfl rfl rfl ?_ | refine zam rfl rfl rfl rfl rfl rfl rfl ?_ | refine za7 rfl ?_ | refine zae rfl rfl rfl ?_ | refine za0 rfl rfl rfl ?_ | refine zab rfl rfl rfl rfl ?_ | refine zaq ?_ | refine zaj rfl rfl ?_ | refine zac rfl rfl ?_ | refine zbs rfl rfl ?_ | refine zbf rfl rfl ?_ | refine zay rfl rfl ?_ | refine zad rfl rfl ?_ | refine zbd rfl rfl ?_ | refine zaa rfl rfl rfl ?_ | refine zau rfl rfl ?_ | refine zah rfl rfl rfl rfl ?_ | refine za8 rfl rfl rfl rfl ?_ | refine zag rfl rfl rfl rfl ?_ | refine zb8 rfl rfl ?_ | refine zb5 rfl rfl ?_ | refine za9 rfl rfl ?_ | refine zb9 ?_ | refine zai env0_ok rfl rfl rfl ?_ | refine zas (op := .add) rfl rfl rfl ?_ | refine zas (op := .sub) rfl rfl rfl ?_ | refine zb7 rfl rfl rfl ?_ | refine zb6 rfl rfl rfl ?_ | refine zb3 rfl rfl rfl ?_ | refine zaz rfl rfl rfl ?_ | refine zb4 rfl rfl (by omega) (by assumption) rfl ?_ | refine za0 rfl rfl (decide_eq_true ⟨by omega, by omega⟩) ?_ | refine zax rfl rfl (by omega) (by omega) ?_ | refine zaf rfl rfl rfl ?_ | refine zbb rfl ?_ | refine zba rfl ?_)
 refine zbp rfl rfl p11 (fun h => Bool.noConfusion (show false = true from h)) ?_
 cases hr : rgtX (.nd op ix args) (kk : Nat) with
 | false =>
  repeat (first | refine zar ?_ | refine za1 rfl ?_ | refine zak ?_ | refine zal ?_ | refine zbe ?_ | refine zan ?_ | refine zaw ?_ | refine zbj rfl ?_ | refine zbk rfl ?_ | refine zb2 ?_ | refine zb0 ?_ | refine zb1 ?_ | refine za4 ?_ | refine za2 rfl ?_ | refine za3 ?_ | refine za5 ?_ | refine zbn rfl ?_ | refine zbq rfl rfl ?_ | refine zbu rfl ?_ | refine zao rfl ?_ | refine zav rfl rfl ?_ | refine zap rfl rfl rfl rfl ?_ | refine zam rfl rfl rfl rfl rfl rfl rfl ?_ | refine za7 rfl ?_ | refine zae rfl rfl rfl ?_ | refine za0 rfl rfl rfl ?_ | refine zab rfl rfl rfl rfl ?_ | refine zaq ?_ | refine zaj rfl rfl ?_ | refine zac rfl rfl ?_ | refine zbs rfl rfl ?_ | refine zbf rfl rfl ?_ | refine zay rfl rfl ?_ | refine zad rfl rfl ?_ | refine zbd rfl rfl ?_ | refine zaa rfl rfl rfl ?_ | refine zau rfl rfl ?_ | refine zah rfl rfl rfl rfl ?_ | refine za8 rfl rfl rfl rfl ?_ | refine zag rfl rfl rfl rfl ?_ | refine zb8 rfl rfl ?_ | refine zb5 rfl rfl ?_ | refine za9 rfl rfl ?_ | refine zb9 ?_ | refine zai env0_ok rfl rfl rfl ?_ | refine zas (op := .add) rfl rfl rfl ?_ | refine zas (op := .sub) rfl rfl rfl ?_ | refine zb7 rfl rfl rfl ?_ | refine zb6 rfl rfl rfl ?_ | refine zb3 rfl rfl rfl ?_ | refine zaz rfl rfl rfl ?_ | refine zb4 rfl rfl (by omega) (by assumption) rfl ?_ | refine za0 rfl rfl (decide_eq_true ⟨by omega, by omega⟩) ?_ | refine zax rfl rfl (by omega) (by omega) ?_ | refine zaf rfl rfl rfl ?_ | refine zbb rfl ?_ | refine zba rfl ?_)
  refine zbp rfl rfl zta (fun h => Bool.noConfusion (show false = true from h)) ?_
  repeat (first | refine zar ?_ | refine za1 rfl ?_ | refine zak ?_ | refine zal ?_ | refine zbe ?_ | refine zan ?_ | refine zaw ?_ | refine zbj rfl ?_ | refine zbk rfl ?_ | refine zb2 ?_ | refine zb0 ?_ | refine zb1 ?_ | refine za4 ?_ | refine za2 rfl ?_ | refine za3 ?_ | refine za5 ?_ | refine zbn rfl ?_ | refine zbq rfl rfl ?_ | refine zbu rfl ?_ | refine zao rfl ?_ | refine zav rfl rfl ?_ | refine zap rfl rfl rfl rfl ?_ | refine zam rfl rfl rfl rfl rfl rfl rfl ?_ | refine za7 rfl ?_ | refine zae rfl rfl rfl ?_ | refine za0 rfl rfl rfl ?_ | refine zab rfl rfl rfl rfl ?_ | refine zaq ?_ | refine zaj rfl rfl ?_ | refine zac rfl rfl ?_ | refine zbs rfl rfl ?_ | refine zbf rfl rfl ?_ | refine zay rfl rfl ?_ | refine zad rfl rfl ?_ | refine zbd rfl rfl ?_ | refine zaa rfl rfl rfl ?_ | refine zau rfl rfl ?_ | refine zah rfl rfl rfl rfl ?_ | refine za8 rfl rfl rfl rfl ?_ | refine zag rfl rfl rfl rfl ?_ | refine zb8 rfl rfl ?_ | refine zb5 rfl rfl ?_ | refine za9 rfl rfl ?_ | refine zb9 ?_ | refine zai env0_ok rfl rfl rfl ?_ | refine zas (op := .add) rfl rfl rfl ?_ | refine zas (op := .sub) rfl rfl rfl ?_ | refine zb7 rfl rfl rfl ?_ | refine zb6 rfl rfl rfl ?_ | refine zb3 rfl rfl rfl ?_ | refine zaz rfl rfl rfl ?_ | refine zb4 rfl rfl (by omega) (by assumption) rfl ?_ | refine za0 rfl rfl (decide_eq_true ⟨by omega, by omega⟩) ?_ | refine zax rfl rfl (by omega) (by omega) ?_ | refine zaf rfl rfl rfl ?_ | refine zbb rfl ?_ | refine zba rfl ?_)
  exact zbh ⟨.inr rfl, _, rfl, rfl⟩
 | true =>
 have hck : zch (.nd op ix args) (kk : Nat) = 0 := by
  unfold rgtX at hr
  exact of_decide_eq_true (Bool.and_eq_true_iff.1 hr).2
 have hck2 := chk_simp hck
 have hnd := znm hck
 have hsz := zpz hck
 have hli := zgo hck
 have hli2 := zgo hck2
 obtain ⟨_, hsz2, _⟩ := zer _ _ (Nat.le_refl _) hnd hsz
 have hss := zw2 hnd hsz
 have hsl2 : Slim (zcx (.nd op ix args)) := slim_sz (zpz hck2)
 have p23 := zkt _ hs (kk : Nat)
 have q23 := zkt _ hsl2 (kk : Nat)
 have p20 := zwb _ hs kk
 have q20 := zwb _ hsl2 kk
 have p27 := size27 _ hs
 have q27 := size27 _ hsl2
 have p28 := zjw _ hs (kk : Nat)
 have q28 := zjw _ hsl2 (kk : Nat)
 have p16 := same16 _ _ hsl2 hsl2
 have htb : tbV kk (zcx (.nd op ix args)) = tbV kk (.nd op ix args) := by
  unfold tbV
  rw [zwe fun v _ => zuh v _ _ (Nat.le_refl _) hnd hsz]
 unfold simpV at p23 q23
 rw [if_pos hck] at p23
 rw [if_pos hck2, hss] at q23
 unfold zwc at p20 q20
 rw [if_neg (by omega), if_pos hck] at p20
 rw [if_neg (by omega), if_pos hck2, htb] at q20
 unfold tbV at p20 q20
 unfold sizeV at p27 q27
 rw [if_pos hli] at p27
 rw [if_pos hli2] at q27
 rw [zwh] at p28 q28
 unfold varsV at p28 q28
 rw [if_pos hck, Int.toNat_natCast] at p28
 rw [if_pos hck2, Int.toNat_natCast] at q28
 unfold sameX at p16
 rw [hli2, eqX_refl, Bool.true_and, Bool.true_and] at p16
 have hocc : ∀ w, zi4 w (zcx (.nd op ix args)) = true → zi4 w (.nd op ix args) = true := fun w => occ_simp _ _ (Nat.le_refl _) hnd hsz
 have hul := zre (.nd op ix args) kk
 have hul2 := zre (zcx (.nd op ix args)) kk
 have hin : ∀ w ∈ zrd (zcx (.nd op ix args)) kk, w ∈ zrd (.nd op ix args) kk := fun w hw => by
  unfold zrd at hw ⊢
  obtain ⟨u, hu, rfl⟩ := List.mem_map.1 hw
  obtain ⟨h1, h2⟩ := List.mem_filter.1 hu
  exact List.mem_map.2 ⟨u, List.mem_filter.2 ⟨h1, hocc _ h2⟩, rfl⟩
 have p29 : ∀ w ∈ zrd (zcx (.nd op ix args)) kk, PF Try.prog 29 [vsI (zrd (.nd op ix args) kk), .int .i64 w] (.bool true) := fun w hw => by
  have := zrw (zrd (.nd op ix args) kk) w (by omega)
  rw [List.contains_iff_mem.2 (hin w hw)] at this
  exact this
 generalize tbB kk (.nd op ix args) (2 ^ kk) = T at *
 generalize zrd (.nd op ix args) kk = us at *
 generalize zrd (zcx (.nd op ix args)) kk = vs at *
 generalize szX (zcx (.nd op ix args)) = s2 at *
 generalize szX (.nd op ix args) = s1 at *
 generalize dpX (zcx (.nd op ix args)) = d2 at *
 generalize dpX (.nd op ix args) = d1 at *
 generalize zcx (.nd op ix args) = y at *
 clear htb hss hocc hin hck2 hli2 hsl2
 obtain ⟨yo, yi, ya⟩ := y
 repeat (first | refine zar ?_ | refine za1 rfl ?_ | refine zak ?_ | refine zal ?_ | refine zbe ?_ | refine zan ?_ | refine zaw ?_ | refine zbj rfl ?_ | refine zbk rfl ?_ | refine zb2 ?_ | refine zb0 ?_ | refine zb1 ?_ | refine za4 ?_ | refine za2 rfl ?_ | refine za3 ?_ | refine za5 ?_ | refine zbn rfl ?_ | refine zbq rfl rfl ?_ | refine zbu rfl ?_ | refine zao rfl ?_ | refine zav rfl rfl ?_ | refine zap rfl rfl rfl rfl ?_ | refine zam rfl rfl rfl rfl rfl rfl rfl ?_ | refine za7 rfl ?_ | refine zae rfl rfl rfl ?_ | refine za0 rfl rfl rfl ?_ | refine zab rfl rfl rfl rfl ?_ | refine zaq ?_ | refine zaj rfl rfl ?_ | refine zac rfl rfl ?_ | refine zbs rfl rfl ?_ | refine zbf rfl rfl ?_ | refine zay rfl rfl ?_ | refine zad rfl rfl ?_ | refine zbd rfl rfl ?_ | refine zaa rfl rfl rfl ?_ | refine zau rfl rfl ?_ | refine zah rfl rfl rfl rfl ?_ | refine za8 rfl rfl rfl rfl ?_ | refine zag rfl rfl rfl rfl ?_ | refine zb8 rfl rfl ?_ | refine zb5 rfl rfl ?_ | refine za9 rfl rfl ?_ | refine zb9 ?_ | refine zai env0_ok rfl rfl rfl ?_ | refine zas (op := .add) rfl rfl rfl ?_ | refine zas (op := .sub) rfl rfl rfl ?_ | refine zb7 rfl rfl rfl ?_ | refine zb6 rfl rfl rfl ?_ | refine zb3 rfl rfl rfl ?_ | refine zaz rfl rfl rfl ?_ | refine zb4 rfl rfl (by omega) (by assumption) rfl ?_ | refine za0 rfl rfl (decide_eq_true ⟨by omega, by omega⟩) ?_ | refine zax rfl rfl (by omega) (by omega) ?_ | refine zaf rfl rfl rfl ?_ | refine zbb rfl ?_ | refine zba rfl ?_)
 refine zbp rfl rfl p23 (fun h => Bool.noConfusion (show false = true from h)) ?_
 repeat (first | refine zar ?_ | refine za1 rfl ?_ | refine zak ?_ | refine zal ?_ | refine zbe ?_ | refine zan ?_ | refine zaw ?_ | refine zbj rfl ?_ | refine zbk rfl ?_ | refine zb2 ?_ | refine zb0 ?_ | refine zb1 ?_ | refine za4 ?_ | refine za2 rfl ?_ | refine za3 ?_ | refine za5 ?_ | refine zbn rfl ?_ | refine zbq rfl rfl ?_ | refine zbu rfl ?_ | refine zao rfl ?_ | refine zav rfl rfl ?_ | refine zap rfl rfl rfl rfl ?_ | refine zam rfl rfl rfl rfl rfl rfl rfl ?_ | refine za7 rfl ?_ | refine zae rfl rfl rfl ?_ | refine za0 rfl rfl rfl ?_ | refine zab rfl rfl rfl rfl ?_ | refine zaq ?_ | refine zaj rfl rfl ?_ | refine zac rfl rfl ?_ | refine zbs rfl rfl ?_ | refine zbf rfl rfl ?_ | refine zay rfl rfl ?_ | refine zad rfl rfl ?_ | refine zbd rfl rfl ?_ | refine zaa rfl rfl rfl ?_ | refine zau rfl rfl ?_ | refine zah rfl rfl rfl rfl ?_ | refine za8 rfl rfl rfl rfl ?_ | refine zag rfl rfl rfl rfl ?_ | refine zb8 rfl rfl ?_ | refine zb5 rfl rfl ?_ | refine za9 rfl rfl ?_ | refine zb9 ?_ | refine zai env0_ok rfl rfl rfl ?_ | refine zas (op := .add) rfl rfl rfl ?_ | refine zas (op := .sub) rfl rfl rfl ?_ | refine zb7 rfl rfl rfl ?_ | refine zb6 rfl rfl rfl ?_ | refine zb3 rfl rfl rfl ?_ | refine zaz rfl rfl rfl ?_ | refine zb4 rfl rfl (by omega) (by assumption) rfl ?_ | refine za0 rfl rfl (decide_eq_true ⟨by omega, by omega⟩) ?_ | refine zax rfl rfl (by omega) (by omega) ?_ | refine zaf rfl rfl rfl ?_ | refine zbb rfl ?_ | refine zba rfl ?_)
 refine zbp rfl rfl q23 (fun h => Bool.noConfusion (show false = true from h)) ?_
 repeat (first | refine zar ?_ | refine za1 rfl ?_ | refine zak ?_ | refine zal ?_ | refine zbe ?_ | refine zan ?_ | refine zaw ?_ | refine zbj rfl ?_ | refine zbk rfl ?_ | refine zb2 ?_ | refine zb0 ?_ | refine zb1 ?_ | refine za4 ?_ | refine za2 rfl ?_ | refine za3 ?_ | refine za5 ?_ | refine zbn rfl ?_ | refine zbq rfl rfl ?_ | refine zbu rfl ?_ | refine zao rfl ?_ | refine zav rfl rfl ?_ | refine zap rfl rfl rfl rfl ?_ | refine zam rfl rfl rfl rfl rfl rfl rfl ?_ | refine za7 rfl ?_ | refine zae rfl rfl rfl ?_ | refine za0 rfl rfl rfl ?_ | refine zab rfl rfl rfl rfl ?_ | refine zaq ?_ | refine zaj rfl rfl ?_ | refine zac rfl rfl ?_ | refine zbs rfl rfl ?_ | refine zbf rfl rfl ?_ | refine zay rfl rfl ?_ | refine zad rfl rfl ?_ | refine zbd rfl rfl ?_ | refine zaa rfl rfl rfl ?_ | refine zau rfl rfl ?_ | refine zah rfl rfl rfl rfl ?_ | refine za8 rfl rfl rfl rfl ?_ | refine zag rfl rfl rfl rfl ?_ | refine zb8 rfl rfl ?_ | refine zb5 rfl rfl ?_ | refine za9 rfl rfl ?_ | refine zb9 ?_ | refine zai env0_ok rfl rfl rfl ?_ | refine zas (op := .add) rfl rfl rfl ?_ | refine zas (op := .sub) rfl rfl rfl ?_ | refine zb7 rfl rfl rfl ?_ | refine zb6 rfl rfl rfl ?_ | refine zb3 rfl rfl rfl ?_ | refine zaz rfl rfl rfl ?_ | refine zb4 rfl rfl (by omega) (by assumption) rfl ?_ | refine za0 rfl rfl (decide_eq_true ⟨by omega, by omega⟩) ?_ | refine zax rfl rfl (by omega) (by omega) ?_ | refine zaf rfl rfl rfl ?_ | refine zbb rfl ?_ | refine zba rfl ?_)
 refine zbp rfl rfl p20 (fun h => Bool.noConfusion (show false = true from h)) ?_
 repeat (first | refine zar ?_ | refine za1 rfl ?_ | refine zak ?_ | refine zal ?_ | refine zbe ?_ | refine zan ?_ | refine zaw ?_ | refine zbj rfl ?_ | refine zbk rfl ?_ | refine zb2 ?_ | refine zb0 ?_ | refine zb1 ?_ | refine za4 ?_ | refine za2 rfl ?_ | refine za3 ?_ | refine za5 ?_ | refine zbn rfl ?_ | refine zbq rfl rfl ?_ | refine zbu rfl ?_ | refine zao rfl ?_ | refine zav rfl rfl ?_ | refine zap rfl rfl rfl rfl ?_ | refine zam rfl rfl rfl rfl rfl rfl rfl ?_ | refine za7 rfl ?_ | refine zae rfl rfl rfl ?_ | refine za0 rfl rfl rfl ?_ | refine zab rfl rfl rfl rfl ?_ | refine zaq ?_ | refine zaj rfl rfl ?_ | refine zac rfl rfl ?_ | refine zbs rfl rfl ?_ | refine zbf rfl rfl ?_ | refine zay rfl rfl ?_ | refine zad rfl rfl ?_ | refine zbd rfl rfl ?_ | refine zaa rfl rfl rfl ?_ | refine zau rfl rfl ?_ | refine zah rfl rfl rfl rfl ?_ | refine za8 rfl rfl rfl rfl ?_ | refine zag rfl rfl rfl rfl ?_ | refine zb8 rfl rfl ?_ | refine zb5 rfl rfl ?_ | refine za9 rfl rfl ?_ | refine zb9 ?_ | refine zai env0_ok rfl rfl rfl ?_ | refine zas (op := .add) rfl rfl rfl ?_ | refine zas (op := .sub) rfl rfl rfl ?_ | refine zb7 rfl rfl rfl ?_ | refine zb6 rfl rfl rfl ?_ | refine zb3 rfl rfl rfl ?_ | refine zaz rfl rfl rfl ?_ | refine zb4 rfl rfl (by omega) (by assumption) rfl ?_ | refine za0 rfl rfl (decide_eq_true ⟨by omega, by omega⟩) ?_ | refine zax rfl rfl (by omega) (by omega) ?_ | refine zaf rfl rfl rfl ?_ | refine zbb rfl ?_ | refine zba rfl ?_)
 refine zbp rfl rfl q20 (fun h => Bool.noConfusion (show false = true from h)) ?_
 repeat (first | refine zar ?_ | refine za1 rfl ?_ | refine zak ?_ | refine zal ?_ | refine zbe ?_ | refine zan ?_ | refine zaw ?_ | refine zbj rfl ?_ | refine zbk rfl ?_ | refine zb2 ?_ | refine zb0 ?_ | refine zb1 ?_ | refine za4 ?_ | refine za2 rfl ?_ | refine za3 ?_ | refine za5 ?_ | refine zbn rfl ?_ | refine zbq rfl rfl ?_ | refine zbu rfl ?_ | refine zao rfl ?_ | refine zav rfl rfl ?_ | refine zap rfl rfl rfl rfl ?_ | refine zam rfl rfl rfl rfl rfl rfl rfl ?_ | refine za7 rfl ?_ | refine zae rfl rfl rfl ?_ | refine za0 rfl rfl rfl ?_ | refine zab rfl rfl rfl rfl ?_ | refine zaq ?_ | refine zaj rfl rfl ?_ | refine zac rfl rfl ?_ | refine zbs rfl rfl ?_ | refine zbf rfl rfl ?_ | refine zay rfl rfl ?_ | refine zad rfl rfl ?_ | refine zbd rfl rfl ?_ | refine zaa rfl rfl rfl ?_ | refine zau rfl rfl ?_ | refine zah rfl rfl rfl rfl ?_ | refine za8 rfl rfl rfl rfl ?_ | refine zag rfl rfl rfl rfl ?_ | refine zb8 rfl rfl ?_ | refine zb5 rfl rfl ?_ | refine za9 rfl rfl ?_ | refine zb9 ?_ | refine zai env0_ok rfl rfl rfl ?_ | refine zas (op := .add) rfl rfl rfl ?_ | refine zas (op := .sub) rfl rfl rfl ?_ | refine zb7 rfl rfl rfl ?_ | refine zb6 rfl rfl rfl ?_ | refine zb3 rfl rfl rfl ?_ | refine zaz rfl rfl rfl ?_ | refine zb4 rfl rfl (by omega) (by assumption) rfl ?_ | refine za0 rfl rfl (decide_eq_true ⟨by omega, by omega⟩) ?_ | refine zax rfl rfl (by omega) (by omega) ?_ | refine zaf rfl rfl rfl ?_ | refine zbb rfl ?_ | refine zba rfl ?_)
 refine zbp rfl rfl p27 (fun h => Bool.noConfusion (show false = true from h)) ?_
 repeat (first | refine zar ?_ | refine za1 rfl ?_ | refine zak ?_ | refine zal ?_ | refine zbe ?_ | refine zan ?_ | refine zaw ?_ | refine zbj rfl ?_ | refine zbk rfl ?_ | refine zb2 ?_ | refine zb0 ?_ | refine zb1 ?_ | refine za4 ?_ | refine za2 rfl ?_ | refine za3 ?_ | refine za5 ?_ | refine zbn rfl ?_ | refine zbq rfl rfl ?_ | refine zbu rfl ?_ | refine zao rfl ?_ | refine zav rfl rfl ?_ | refine zap rfl rfl rfl rfl ?_ | refine zam rfl rfl rfl rfl rfl rfl rfl ?_ | refine za7 rfl ?_ | refine zae rfl rfl rfl ?_ | refine za0 rfl rfl rfl ?_ | refine zab rfl rfl rfl rfl ?_ | refine zaq ?_ | refine zaj rfl rfl ?_ | refine zac rfl rfl ?_ | refine zbs rfl rfl ?_ | refine zbf rfl rfl ?_ | refine zay rfl rfl ?_ | refine zad rfl rfl ?_ | refine zbd rfl rfl ?_ | refine zaa rfl rfl rfl ?_ | refine zau rfl rfl ?_ | refine zah rfl rfl rfl rfl ?_ | refine za8 rfl rfl rfl rfl ?_ | refine zag rfl rfl rfl rfl ?_ | refine zb8 rfl rfl ?_ | refine zb5 rfl rfl ?_ | refine za9 rfl rfl ?_ | refine zb9 ?_ | refine zai env0_ok rfl rfl rfl ?_ | refine zas (op := .add) rfl rfl rfl ?_ | refine zas (op := .sub) rfl rfl rfl ?_ | refine zb7 rfl rfl rfl ?_ | refine zb6 rfl rfl rfl ?_ | refine zb3 rfl rfl rfl ?_ | refine zaz rfl rfl rfl ?_ | refine zb4 rfl rfl (by omega) (by assumption) rfl ?_ | refine za0 rfl rfl (decide_eq_true ⟨by omega, by omega⟩) ?_ | refine zax rfl rfl (by omega) (by omega) ?_ | refine zaf rfl rfl rfl ?_ | refine zbb rfl ?_ | refine zba rfl ?_)
 refine zbp rfl rfl q27 (fun h => Bool.noConfusion (show false = true from h)) ?_
 repeat (first | refine zar ?_ | refine za1 rfl ?_ | refine zak ?_ | refine zal ?_ | refine zbe ?_ | refine zan ?_ | refine zaw ?_ | refine zbj rfl ?_ | refine zbk rfl ?_ | refine zb2 ?_ | refine zb0 ?_ | refine zb1 ?_ | refine za4 ?_ | refine za2 rfl ?_ | refine za3 ?_ | refine za5 ?_ | refine zbn rfl ?_ | refine zbq rfl rfl ?_ | refine zbu rfl ?_ | refine zao rfl ?_ | refine zav rfl rfl ?_ | refine zap rfl rfl rfl rfl ?_ | refine zam rfl rfl rfl rfl rfl rfl rfl ?_ | refine za7 rfl ?_ | refine zae rfl rfl rfl ?_ | refine za0 rfl rfl rfl ?_ | refine zab rfl rfl rfl rfl ?_ | refine zaq ?_ | refine zaj rfl rfl ?_ | refine zac rfl rfl ?_ | refine zbs rfl rfl ?_ | refine zbf rfl rfl ?_ | refine zay rfl rfl ?_ | refine zad rfl rfl ?_ | refine zbd rfl rfl ?_ | refine zaa rfl rfl rfl ?_ | refine zau rfl rfl ?_ | refine zah rfl rfl rfl rfl ?_ | refine za8 rfl rfl rfl rfl ?_ | refine zag rfl rfl rfl rfl ?_ | refine zb8 rfl rfl ?_ | refine zb5 rfl rfl ?_ | refine za9 rfl rfl ?_ | refine zb9 ?_ | refine zai env0_ok rfl rfl rfl ?_ | refine zas (op := .add) rfl rfl rfl ?_ | refine zas (op := .sub) rfl rfl rfl ?_ | refine zb7 rfl rfl rfl ?_ | refine zb6 rfl rfl rfl ?_ | refine zb3 rfl rfl rfl ?_ | refine zaz rfl rfl rfl ?_ | refine zb4 rfl rfl (by omega) (by assumption) rfl ?_ | refine za0 rfl rfl (decide_eq_true ⟨by omega, by omega⟩) ?_ | refine zax rfl rfl (by omega) (by omega) ?_ | refine zaf rfl rfl rfl ?_ | refine zbb rfl ?_ | refine zba rfl ?_)
 refine zbp rfl rfl p28 (fun h => Bool.noConfusion (show false = true from h)) ?_
 repeat (first | refine zar ?_ | refine za1 rfl ?_ | refine zak ?_ | refine zal ?_ | refine zbe ?_ | refine zan ?_ | refine zaw ?_ | refine zbj rfl ?_ | refine zbk rfl ?_ | refine zb2 ?_ | refine zb0 ?_ | refine zb1 ?_ | refine za4 ?_ | refine za2 rfl ?_ | refine za3 ?_ | refine za5 ?_ | refine zbn rfl ?_ | refine zbq rfl rfl ?_ | refine zbu rfl ?_ | refine zao rfl ?_ | refine zav rfl rfl ?_ | refine zap rfl rfl rfl rfl ?_ | refine zam rfl rfl rfl rfl rfl rfl rfl ?_ | refine za7 rfl ?_ | refine zae rfl rfl rfl ?_ | refine za0 rfl rfl rfl ?_ | refine zab rfl rfl rfl rfl ?_ | refine zaq ?_ | refine zaj rfl rfl ?_ | refine zac rfl rfl ?_ | refine zbs rfl rfl ?_ | refine zbf rfl rfl ?_ | refine zay rfl rfl ?_ | refine zad rfl rfl ?_ | refine zbd rfl rfl ?_ | refine zaa rfl rfl rfl ?_ | refine zau rfl rfl ?_ | refine zah rfl rfl rfl rfl ?_ | refine za8 rfl rfl rfl rfl ?_ | refine zag rfl rfl rfl rfl ?_ | refine zb8 rfl rfl ?_ | refine zb5 rfl rfl ?_ | refine za9 rfl rfl ?_ | refine zb9 ?_ | refine zai env0_ok rfl rfl rfl ?_ | refine zas (op := .add) rfl rfl rfl ?_ | refine zas (op := .sub) rfl rfl rfl ?_ | refine zb7 rfl rfl rfl ?_ | refine zb6 rfl rfl rfl ?_ | refine zb3 rfl rfl rfl ?_ | refine zaz rfl rfl rfl ?_ | refine zb4 rfl rfl (by omega) (by assumption) rfl ?_ | refine za0 rfl rfl (decide_eq_true ⟨by omega, by omega⟩) ?_ | refine zax rfl rfl (by omega) (by omega) ?_ | refine zaf rfl rfl rfl ?_ | refine zbb rfl ?_ | refine zba rfl ?_)
 refine zbp rfl rfl q28 (fun h => Bool.noConfusion (show false = true from h)) ?_
 repeat (first | refine zar ?_ | refine za1 rfl ?_ | refine zak ?_ | refine zal ?_ | refine zbe ?_ | refine zan ?_ | refine zaw ?_ | refine zbj rfl ?_ | refine zbk rfl ?_ | refine zb2 ?_ | refine zb0 ?_ | refine zb1 ?_ | refine za4 ?_ | refine za2 rfl ?_ | refine za3 ?_ | refine za5 ?_ | refine zbn rfl ?_ | refine zbq rfl rfl ?_ | refine zbu rfl ?_ | refine zao rfl ?_ | refine zav rfl rfl ?_ | refine zap rfl rfl rfl rfl ?_ | refine zam rfl rfl rfl rfl rfl rfl rfl ?_ | refine za7 rfl ?_ | refine zae rfl rfl rfl ?_ | refine za0 rfl rfl rfl ?_ | refine zab rfl rfl rfl rfl ?_ | refine zaq ?_ | refine zaj rfl rfl ?_ | refine zac rfl rfl ?_ | refine zbs rfl rfl ?_ | refine zbf rfl rfl ?_ | refine zay rfl rfl ?_ | refine zad rfl rfl ?_ | refine zbd rfl rfl ?_ | refine zaa rfl rfl rfl ?_ | refine zau rfl rfl ?_ | refine zah rfl rfl rfl rfl ?_ | refine za8 rfl rfl rfl rfl ?_ | refine zag rfl rfl rfl rfl ?_ | refine zb8 rfl rfl ?_ | refine zb5 rfl rfl ?_ | refine za9 rfl rfl ?_ | refine zb9 ?_ | refine zai env0_ok rfl rfl rfl ?_ | refine zas (op := .add) rfl rfl rfl ?_ | refine zas (op := .sub) rfl rfl rfl ?_ | refine zb7 rfl rfl rfl ?_ | refine zb6 rfl rfl rfl ?_ | refine zb3 rfl rfl rfl ?_ | refine zaz rfl rfl rfl ?_ | refine zb4 rfl rfl (by omega) (by assumption) rfl ?_ | refine za0 rfl rfl (decide_eq_true ⟨by omega, by omega⟩) ?_ | refine zax rfl rfl (by omega) (by omega) ?_ | refine zaf rfl rfl rfl ?_ | refine zbb rfl ?_ | refine zba rfl ?_)
 have heq : zqc [AV.int .i64 (kk : Nat), cU T] [AV.int .i64 (kk : Nat), cU T] [(0, .int), (1, .int)] = some true := by
  simp [zqc, eqK, cU]
 refine o_eqs (r := true) rfl rfl heq (fun h => Bool.noConfusion h) fun _ => ?_
 repeat (first | refine zar ?_ | refine za1 rfl ?_ | refine zak ?_ | refine zal ?_ | refine zbe ?_ | refine zan ?_ | refine zaw ?_ | refine zbj rfl ?_ | refine zbk rfl ?_ | refine zb2 ?_ | refine zb0 ?_ | refine zb1 ?_ | refine za4 ?_ | refine za2 rfl ?_ | refine za3 ?_ | refine za5 ?_ | refine zbn rfl ?_ | refine zbq rfl rfl ?_ | refine zbu rfl ?_ | refine zao rfl ?_ | refine zav rfl rfl ?_ | refine zap rfl rfl rfl rfl ?_ | refine zam rfl rfl rfl rfl rfl rfl rfl ?_ | refine za7 rfl ?_ | refine zae rfl rfl rfl ?_ | refine za0 rfl rfl rfl ?_ | refine zab rfl rfl rfl rfl ?_ | refine zaq ?_ | refine zaj rfl rfl ?_ | refine zac rfl rfl ?_ | refine zbs rfl rfl ?_ | refine zbf rfl rfl ?_ | refine zay rfl rfl ?_ | refine zad rfl rfl ?_ | refine zbd rfl rfl ?_ | refine zaa rfl rfl rfl ?_ | refine zau rfl rfl ?_ | refine zah rfl rfl rfl rfl ?_ | refine za8 rfl rfl rfl rfl ?_ | refine zag rfl rfl rfl rfl ?_ | refine zb8 rfl rfl ?_ | refine zb5 rfl rfl ?_ | refine za9 rfl rfl ?_ | refine zb9 ?_ | refine zai env0_ok rfl rfl rfl ?_ | refine zas (op := .add) rfl rfl rfl ?_ | refine zas (op := .sub) rfl rfl rfl ?_ | refine zb7 rfl rfl rfl ?_ | refine zb6 rfl rfl rfl ?_ | refine zb3 rfl rfl rfl ?_ | refine zaz rfl rfl rfl ?_ | refine zb4 rfl rfl (by omega) (by assumption) rfl ?_ | refine za0 rfl rfl (decide_eq_true ⟨by omega, by omega⟩) ?_ | refine zax rfl rfl (by omega) (by omega) ?_ | refine zaf rfl rfl rfl ?_ | refine zbb rfl ?_ | refine zba rfl ?_)
 refine zbp rfl rfl p16 (fun h => Bool.noConfusion (show false = true from h)) ?_
 repeat (first | refine zar ?_ | refine za1 rfl ?_ | refine zak ?_ | refine zal ?_ | refine zbe ?_ | refine zan ?_ | refine zaw ?_ | refine zbj rfl ?_ | refine zbk rfl ?_ | refine zb2 ?_ | refine zb0 ?_ | refine zb1 ?_ | refine za4 ?_ | refine za2 rfl ?_ | refine za3 ?_ | refine za5 ?_ | refine zbn rfl ?_ | refine zbq rfl rfl ?_ | refine zbu rfl ?_ | refine zao rfl ?_ | refine zav rfl rfl ?_ | refine zap rfl rfl rfl rfl ?_ | refine zam rfl rfl rfl rfl rfl rfl rfl ?_ | refine za7 rfl ?_ | refine zae rfl rfl rfl ?_ | refine za0 rfl rfl rfl ?_ | refine zab rfl rfl rfl rfl ?_ | refine zaq ?_ | refine zaj rfl rfl ?_ | refine zac rfl rfl ?_ | refine zbs rfl rfl ?_ | refine zbf rfl rfl ?_ | refine zay rfl rfl ?_ | refine zad rfl rfl ?_ | refine zbd rfl rfl ?_ | refine zaa rfl rfl rfl ?_ | refine zau rfl rfl ?_ | refine zah rfl rfl rfl rfl ?_ | refine za8 rfl rfl rfl rfl ?_ | refine zag rfl rfl rfl rfl ?_ | refine zb8 rfl rfl ?_ | refine zb5 rfl rfl ?_ | refine za9 rfl rfl ?_ | refine zb9 ?_ | refine zai env0_ok rfl rfl rfl ?_ | refine zas (op := .add) rfl rfl rfl ?_ | refine zas (op := .sub) rfl rfl rfl ?_ | refine zb7 rfl rfl rfl ?_ | refine zb6 rfl rfl rfl ?_ | refine zb3 rfl rfl rfl ?_ | refine zaz rfl rfl rfl ?_ | refine zb4 rfl rfl (by omega) (by assumption) rfl ?_ | refine za0 rfl rfl (decide_eq_true ⟨by omega, by omega⟩) ?_ | refine zax rfl rfl (by omega) (by omega) ?_ | refine zaf rfl rfl rfl ?_ | refine zbb rfl ?_ | refine zba rfl ?_)
 refine zaz rfl rfl (show some (AV.bool (decide (s2 > s1))) = _ by rw [decide_eq_false (by omega)]) ?_
 repeat (first | refine zar ?_ | refine za1 rfl ?_ | refine zak ?_ | refine zal ?_ | refine zbe ?_ | refine zan ?_ | refine zaw ?_ | refine zbj rfl ?_ | refine zbk rfl ?_ | refine zb2 ?_ | refine zb0 ?_ | refine zb1 ?_ | refine za4 ?_ | refine za2 rfl ?_ | refine za3 ?_ | refine za5 ?_ | refine zbn rfl ?_ | refine zbq rfl rfl ?_ | refine zbu rfl ?_ | refine zao rfl ?_ | refine zav rfl rfl ?_ | refine zap rfl rfl rfl rfl ?_ | refine zam rfl rfl rfl rfl rfl rfl rfl ?_ | refine za7 rfl ?_ | refine zae rfl rfl rfl ?_ | refine za0 rfl rfl rfl ?_ | refine zab rfl rfl rfl rfl ?_ | refine zaq ?_ | refine zaj rfl rfl ?_ | refine zac rfl rfl ?_ | refine zbs rfl rfl ?_ | refine zbf rfl rfl ?_ | refine zay rfl rfl ?_ | refine zad rfl rfl ?_ | refine zbd rfl rfl ?_ | refine zaa rfl rfl rfl ?_ | refine zau rfl rfl ?_ | refine zah rfl rfl rfl rfl ?_ | refine za8 rfl rfl rfl rfl ?_ | refine zag rfl rfl rfl rfl ?_ | refine zb8 rfl rfl ?_ | refine zb5 rfl rfl ?_ | refine za9 rfl rfl ?_ | refine zb9 ?_ | refine zai env0_ok rfl rfl rfl ?_ | refine zas (op := .add) rfl rfl rfl ?_ | refine zas (op := .sub) rfl rfl rfl ?_ | refine zb7 rfl rfl rfl ?_ | refine zb6 rfl rfl rfl ?_ | refine zb3 rfl rfl rfl ?_ | refine zaz rfl rfl rfl ?_ | refine zb4 rfl rfl (by omega) (by assumption) rfl ?_ | refine za0 rfl rfl (decide_eq_true ⟨by omega, by omega⟩) ?_ | refine zax rfl rfl (by omega) (by omega) ?_ | refine zaf rfl rfl rfl ?_ | refine zbb rfl ?_ | refine zba rfl ?_)
 refine zct [] [] [(20, vsI us), (114, vsI vs), (115, .int .i64 ((vs.map fun z => ([.int .i64 z] : List AV)).length : Nat)), (116, .int .i64 0)] rfl .nil .nil (.cons rfl (.same rfl) (.cons rfl (.same rfl) (.cons rfl (.same rfl) (.cons rfl (.same rfl) .nil)))) ?_
 have hml : (vs.map fun z => ([.int .i64 z] : List AV)).length = vs.length := List.length_map ..
 refine zdu (fun mm S => ∃ i, mm = vs.length - i ∧ i ≤ vs.length ∧ S = st 126 [(20, vsI us), (114, vsI vs), (115, .int .i64 ((vs.map fun z => ([.int .i64 z] : List AV)).length : Nat)), (116, .int .i64 (i : Nat))] [] 0 1) vs.length
  (zbm (.cons rfl (.cons rfl (.cons rfl (.cons rfl .nil))))) ⟨0, rfl, Nat.zero_le _, rfl⟩ ?_
 rintro mm S ⟨i, rfl, hi, rfl⟩
 unfold b7_0
 repeat (first | refine zar ?_ | refine za1 rfl ?_ | refine zak ?_ | refine zal ?_ | refine zbe ?_ | refine zan ?_ | refine zaw ?_ | refine zbj rfl ?_ | refine zbk rfl ?_ | refine zb2 ?_ | refine zb0 ?_ | refine zb1 ?_ | refine za4 ?_ | refine za2 rfl ?_ | refine za3 ?_ | refine za5 ?_ | refine zbn rfl ?_ | refine zbq rfl rfl ?_ | refine zbu rfl ?_ | refine zao rfl ?_ | refine zav rfl rfl ?_ | refine zap rfl rfl rfl rfl ?_ | refine zam rfl rfl rfl rfl rfl rfl rfl ?_ | refine za7 rfl ?_ | refine zae rfl rfl rfl ?_ | refine za0 rfl rfl rfl ?_ | refine zab rfl rfl rfl rfl ?_ | refine zaq ?_ | refine zaj rfl rfl ?_ | refine zac rfl rfl ?_ | refine zbs rfl rfl ?_ | refine zbf rfl rfl ?_ | refine zay rfl rfl ?_ | refine zad rfl rfl ?_ | refine zbd rfl rfl ?_ | refine zaa rfl rfl rfl ?_ | refine zau rfl rfl ?_ | refine zah rfl rfl rfl rfl ?_ | refine za8 rfl rfl rfl rfl ?_ | refine zag rfl rfl rfl rfl ?_ | refine zb8 rfl rfl ?_ | refine zb5 rfl rfl ?_ | refine za9 rfl rfl ?_ | refine zb9 ?_ | refine zai env0_ok rfl rfl rfl ?_ | refine zas (op := .add) rfl rfl rfl ?_ | refine zas (op := .sub) rfl rfl rfl ?_ | refine zb7 rfl rfl rfl ?_ | refine zb6 rfl rfl rfl ?_ | refine zb3 rfl rfl rfl ?_ | refine zaz rfl rfl rfl ?_ | refine zb4 rfl rfl (by omega) (by assumption) rfl ?_ | refine za0 rfl rfl (decide_eq_true ⟨by omega, by omega⟩) ?_ | refine zax rfl rfl (by omega) (by omega) ?_ | refine zaf rfl rfl rfl ?_ | refine zbb rfl ?_ | refine zba rfl ?_)
 refine zbr rfl rfl rfl (fun h3 => ?_) fun h3 => ?_
 ·have hlt : i < vs.length := by
   have h4 : ((i : Nat) : Int) < (((vs.map fun z => ([.int .i64 z] : List AV)).length : Nat) : Int) := of_decide_eq_true h3
   omega
  have w2 : IntKind.wrap .i64 (((i : Nat) : Int) + 1) = ((i + 1 : Nat) : Int) := zc2 i (by omega)
  have hge := zwk hlt
  have p29 := p29 vs[i] (List.getElem_mem hlt)
  generalize vs[i] = w at *
  repeat (first | refine zar ?_ | refine za1 rfl ?_ | refine zak ?_ | refine zal ?_ | refine zbe ?_ | refine zan ?_ | refine zaw ?_ | refine zbj rfl ?_ | refine zbk rfl ?_ | refine zb2 ?_ | refine zb0 ?_ | refine zb1 ?_ | refine za4 ?_ | refine za2 rfl ?_ | refine za3 ?_ | refine za5 ?_ | refine zbn rfl ?_ | refine zbq rfl rfl ?_ | refine zbu rfl ?_ | refine zao rfl ?_ | refine zav rfl rfl ?_ | refine zap rfl rfl rfl rfl ?_ | refine zam rfl rfl rfl rfl rfl rfl rfl ?_ | refine za7 rfl ?_ | refine zae rfl rfl rfl ?_ | refine za0 rfl rfl rfl ?_ | refine zab rfl rfl rfl rfl ?_ | refine zaq ?_ | refine zaj rfl rfl ?_ | refine zac rfl rfl ?_ | refine zbs rfl rfl ?_ | refine zbf rfl rfl ?_ | refine zay rfl rfl ?_ | refine zad rfl rfl ?_ | refine zbd rfl rfl ?_ | refine zaa rfl rfl rfl ?_ | refine zau rfl rfl ?_ | refine zah rfl rfl rfl rfl ?_ | refine za8 rfl rfl rfl rfl ?_ | refine zag rfl rfl rfl rfl ?_ | refine zb8 rfl rfl ?_ | refine zb5 rfl rfl ?_ | refine za9 rfl rfl ?_ | refine zb9 ?_ | refine zai env0_ok rfl rfl rfl ?_ | refine zas (op := .add) rfl rfl rfl ?_ | refine zas (op := .sub) rfl rfl rfl ?_ | refine zb7 rfl rfl rfl ?_ | refine zb6 rfl rfl rfl ?_ | refine zb3 rfl rfl rfl ?_ | refine zaz rfl rfl rfl ?_ | refine zb4 rfl rfl (by omega) (by assumption) rfl ?_ | refine za0 rfl rfl (decide_eq_true ⟨by omega, by omega⟩) ?_ | refine zax rfl rfl (by omega) (by omega) ?_ | refine zaf rfl rfl rfl ?_ | refine zbb rfl ?_ | refine zba rfl ?_)
  refine zbp rfl rfl p29 (fun h => Bool.noConfusion (show false = true from h)) ?_
  repeat (first | refine zar ?_ | refine za1 rfl ?_ | refine zak ?_ | refine zal ?_ | refine zbe ?_ | refine zan ?_ | refine zaw ?_ | refine zbj rfl ?_ | refine zbk rfl ?_ | refine zb2 ?_ | refine zb0 ?_ | refine zb1 ?_ | refine za4 ?_ | refine za2 rfl ?_ | refine za3 ?_ | refine za5 ?_ | refine zbn rfl ?_ | refine zbq rfl rfl ?_ | refine zbu rfl ?_ | refine zao rfl ?_ | refine zav rfl rfl ?_ | refine zap rfl rfl rfl rfl ?_ | refine zam rfl rfl rfl rfl rfl rfl rfl ?_ | refine za7 rfl ?_ | refine zae rfl rfl rfl ?_ | refine za0 rfl rfl rfl ?_ | refine zab rfl rfl rfl rfl ?_ | refine zaq ?_ | refine zaj rfl rfl ?_ | refine zac rfl rfl ?_ | refine zbs rfl rfl ?_ | refine zbf rfl rfl ?_ | refine zay rfl rfl ?_ | refine zad rfl rfl ?_ | refine zbd rfl rfl ?_ | refine zaa rfl rfl rfl ?_ | refine zau rfl rfl ?_ | refine zah rfl rfl rfl rfl ?_ | refine za8 rfl rfl rfl rfl ?_ | refine zag rfl rfl rfl rfl ?_ | refine zb8 rfl rfl ?_ | refine zb5 rfl rfl ?_ | refine za9 rfl rfl ?_ | refine zb9 ?_ | refine zai env0_ok rfl rfl rfl ?_ | refine zas (op := .add) rfl rfl rfl ?_ | refine zas (op := .sub) rfl rfl rfl ?_ | refine zb7 rfl rfl rfl ?_ | refine zb6 rfl rfl rfl ?_ | refine zb3 rfl rfl rfl ?_ | refine zaz rfl rfl rfl ?_ | refine zb4 rfl rfl (by omega) (by assumption) rfl ?_ | refine za0 rfl rfl (decide_eq_true ⟨by omega, by omega⟩) ?_ | refine zax rfl rfl (by omega) (by omega) ?_ | refine zaf rfl rfl rfl ?_ | refine zbb rfl ?_ | refine zba rfl ?_)
  rw [w2]
  exact zcg (show vs.length - (i + 1) < vs.length - i by omega) (zbm (.cons rfl (.cons rfl (.cons rfl (.cons rfl .nil))))) ⟨i + 1, rfl, hlt, rfl⟩
 ·repeat (first | refine zar ?_ | refine za1 rfl ?_ | refine zak ?_ | refine zal ?_ | refine zbe ?_ | refine zan ?_ | refine zaw ?_ | refine zbj rfl ?_ | refine zbk rfl ?_ | refine zb2 ?_ | refine zb0 ?_ | refine zb1 ?_ | refine za4 ?_ | refine za2 rfl ?_ | refine za3 ?_ | refine za5 ?_ | refine zbn rfl ?_ | refine zbq rfl rfl ?_ | refine zbu rfl ?_ | refine zao rfl ?_ | refine zav rfl rfl ?_ | refine zap rfl rfl rfl rfl ?_ | refine zam rfl rfl rfl rfl rfl rfl rfl ?_ | refine za7 rfl ?_ | refine zae rfl rfl rfl ?_ | refine za0 rfl rfl rfl ?_ | refine zab rfl rfl rfl rfl ?_ | refine zaq ?_ | refine zaj rfl rfl ?_ | refine zac rfl rfl ?_ | refine zbs rfl rfl ?_ | refine zbf rfl rfl ?_ | refine zay rfl rfl ?_ | refine zad rfl rfl ?_ | refine zbd rfl rfl ?_ | refine zaa rfl rfl rfl ?_ | refine zau rfl rfl ?_ | refine zah rfl rfl rfl rfl ?_ | refine za8 rfl rfl rfl rfl ?_ | refine zag rfl rfl rfl rfl ?_ | refine zb8 rfl rfl ?_ | refine zb5 rfl rfl ?_ | refine za9 rfl rfl ?_ | refine zb9 ?_ | refine zai env0_ok rfl rfl rfl ?_ | refine zas (op := .add) rfl rfl rfl ?_ | refine zas (op := .sub) rfl rfl rfl ?_ | refine zb7 rfl rfl rfl ?_ | refine zb6 rfl rfl rfl ?_ | refine zb3 rfl rfl rfl ?_ | refine zaz rfl rfl rfl ?_ | refine zb4 rfl rfl (by omega) (by assumption) rfl ?_ | refine za0 rfl rfl (decide_eq_true ⟨by omega, by omega⟩) ?_ | refine zax rfl rfl (by omega) (by omega) ?_ | refine zaf rfl rfl rfl ?_ | refine zbb rfl ?_ | refine zba rfl ?_)
  refine zev ?_
  repeat (first | refine zar ?_ | refine za1 rfl ?_ | refine zak ?_ | refine zal ?_ | refine zbe ?_ | refine zan ?_ | refine zaw ?_ | refine zbj rfl ?_ | refine zbk rfl ?_ | refine zb2 ?_ | refine zb0 ?_ | refine zb1 ?_ | refine za4 ?_ | refine za2 rfl ?_ | refine za3 ?_ | refine za5 ?_ | refine zbn rfl ?_ | refine zbq rfl rfl ?_ | refine zbu rfl ?_ | refine zao rfl ?_ | refine zav rfl rfl ?_ | refine zap rfl rfl rfl rfl ?_ | refine zam rfl rfl rfl rfl rfl rfl rfl ?_ | refine za7 rfl ?_ | refine zae rfl rfl rfl ?_ | refine za0 rfl rfl rfl ?_ | refine zab rfl rfl rfl rfl ?_ | refine zaq ?_ | refine zaj rfl rfl ?_ | refine zac rfl rfl ?_ | refine zbs rfl rfl ?_ | refine zbf rfl rfl ?_ | refine zay rfl rfl ?_ | refine zad rfl rfl ?_ | refine zbd rfl rfl ?_ | refine zaa rfl rfl rfl ?_ | refine zau rfl rfl ?_ | refine zah rfl rfl rfl rfl ?_ | refine za8 rfl rfl rfl rfl ?_ | refine zag rfl rfl rfl rfl ?_ | refine zb8 rfl rfl ?_ | refine zb5 rfl rfl ?_ | refine za9 rfl rfl ?_ | refine zb9 ?_ | refine zai env0_ok rfl rfl rfl ?_ | refine zas (op := .add) rfl rfl rfl ?_ | refine zas (op := .sub) rfl rfl rfl ?_ | refine zb7 rfl rfl rfl ?_ | refine zb6 rfl rfl rfl ?_ | refine zb3 rfl rfl rfl ?_ | refine zaz rfl rfl rfl ?_ | refine zb4 rfl rfl (by omega) (by assumption) rfl ?_ | refine za0 rfl rfl (decide_eq_true ⟨by omega, by omega⟩) ?_ | refine zax rfl rfl (by omega) (by omega) ?_ | refine zaf rfl rfl rfl ?_ | refine zbb rfl ?_ | refine zba rfl ?_)
  refine zbp rfl rfl zta (fun h => Bool.noConfusion (show false = true from h)) ?_
  repeat (first | refine zar ?_ | refine za1 rfl ?_ | refine zak ?_ | refine zal ?_ | refine zbe ?_ | refine zan ?_ | refine zaw ?_ | refine zbj rfl ?_ | refine zbk rfl ?_ | refine zb2 ?_ | refine zb0 ?_ | refine zb1 ?_ | refine za4 ?_ | refine za2 rfl ?_ | refine za3 ?_ | refine za5 ?_ | refine zbn rfl ?_ | refine zbq rfl rfl ?_ | refine zbu rfl ?_ | refine zao rfl ?_ | refine zav rfl rfl ?_ | refine zap rfl rfl rfl rfl ?_ | refine zam rfl rfl rfl rfl rfl rfl rfl ?_ | refine za7 rfl ?_ | refine zae rfl rfl rfl ?_ | refine za0 rfl rfl rfl ?_ | refine zab rfl rfl rfl rfl ?_ | refine zaq ?_ | refine zaj rfl rfl ?_ | refine zac rfl rfl ?_ | refine zbs rfl rfl ?_ | refine zbf rfl rfl ?_ | refine zay rfl rfl ?_ | refine zad rfl rfl ?_ | refine zbd rfl rfl ?_ | refine zaa rfl rfl rfl ?_ | refine zau rfl rfl ?_ | refine zah rfl rfl rfl rfl ?_ | refine za8 rfl rfl rfl rfl ?_ | refine zag rfl rfl rfl rfl ?_ | refine zb8 rfl rfl ?_ | refine zb5 rfl rfl ?_ | refine za9 rfl rfl ?_ | refine zb9 ?_ | refine zai env0_ok rfl rfl rfl ?_ | refine zas (op := .add) rfl rfl rfl ?_ | refine zas (op := .sub) rfl rfl rfl ?_ | refine zb7 rfl rfl rfl ?_ | refine zb6 rfl rfl rfl ?_ | refine zb3 rfl rfl rfl ?_ | refine zaz rfl rfl rfl ?_ | refine zb4 rfl rfl (by omega) (by assumption) rfl ?_ | refine za0 rfl rfl (decide_eq_true ⟨by omega, by omega⟩) ?_ | refine zax rfl rfl (by omega) (by omega) ?_ | refine zaf rfl rfl rfl ?_ | refine zbb rfl ?_ | refine zba rfl ?_)
  exact zbh ⟨.inr rfl, _, rfl, rfl⟩
end Go.Proofs.Ytmnkjofaodbokaa
