/-
  R10, R11, R12, R13, R14, R15, R16, R17 in one text.; THE EXAMPLES OF THE CHAPTER.; LISTS OF NUMBERS AS THE MACHINE HOLDS THEM; LISTS THAT ARE GONE THROUGH.; SMALL EXPRESSIONS.; LISTS OF SMALL EXPRESSIONS.; RIGHT EXPRESSIONS; HOW MANY NODES THEY HAVE AND HOW DEEP THEY ARE.; THE REFERENCE's DEPTH AND SIZE; WHETHER A VARIABLE OCCURS.
-/
import Derived.Test.YtmnkjofaodbokaaKX2
namespace Go.Proofs.Ytmnkjofaodbokaa
open Go Go.Am
mutual
def szX : Ex → Int
 | .nd _ _ args => 1 + szL args
def szL : List Ex → Int
 | [] => 0
 | y :: ys => szX y + szL ys
end
mutual
theorem zfr : ∀ x : Ex, 1 ≤ szX x
 | .nd op ix args => by
  rw [szX]
  have := zcw args
  omega
theorem zcw : ∀ l : List Ex, 0 ≤ szL l
 | [] => by rw [szL]; exact Int.le_refl _
 | y :: ys => by
  rw [szL]
  have := zfr y
  have := zcw ys
  omega
end
theorem zgo : ∀ l : List Ex, (l.length : Int) ≤ szL l
 | [] => by rw [szL]; exact Int.le_refl _
 | y :: ys => by
  rw [szL, List.length_cons]
  have := zfr y
  have := zgo ys
  omega
mutual
theorem zt4 : ∀ x : Ex, szX x ≤ 256 → Thin x
 | .nd op ix args => fun h => by
  rw [szX] at h
  have := zgo args
  exact .nd (by omega) (zos args (by omega))
theorem zos : ∀ l : List Ex, szL l ≤ 256 → ∀ y ∈ l, Thin y
 | [] => fun _ y hy => absurd hy List.not_mem_nil
 | x :: xs => fun h y hy => by
  rw [szL] at h
  have h1 := zfr x
  have h2 := zcw xs
  rcases List.mem_cons.1 hy with he | hm
  ·rw [he]
   exact zt4 x (by omega)
  ·exact zos xs (by omega) y hm
end
mutual
theorem cnt_eq (most : Int) (h : 0 ≤ most) : ∀ x : Ex, cnt most x = if szX x ≤ most then szX x else most + 1
 | .nd op ix args => by
  rw [cnt, szX]
  exact zqw most h 1 (by omega) (by omega) args
theorem zqw (most : Int) (h : 0 ≤ most) (n : Int) (h1 : 1 ≤ n) (h2 : n ≤ most + 1) : ∀ l : List Ex, zmf most n l = if n + szL l ≤ most then n + szL l else most + 1
 | [] => by
  rw [zmf, szL]
  split <;> omega
 | y :: ys => by
  rw [zmf, szL]
  have hy := zfr y
  have hys := zcw ys
  split
  ·have e := cnt_eq (most - n) (by omega) y
   have b := zj3 (most - n) (by omega) y
   rw [zqw most h _ (by omega) (by omega) ys]
   split at e <;> rw [e] <;> (repeat' split) <;> omega
  ·rw [if_neg (by omega)]
   omega
end
theorem zgm (m : Nat) (op ix : Int) (args : List Ex) : zdc (m + 1) (.nd op ix args) = args.all (zdc m) := by
 rw [zdc]
 split
 ·rename_i h
  subst h
  cases args with
  | nil => rfl
  | cons a l => simp [zdc]
 ·rfl
def zcp (x : Ex) : Bool := decide (cnt 256 x ≤ 256) && zdc 16 x
theorem zdx (x : Ex) : zcp x = true ↔ szX x ≤ 256 ∧ zdc 16 x = true := by
 unfold zcp
 rw [Bool.and_eq_true, decide_eq_true_iff, cnt_eq 256 (by omega)]
 constructor
 ·intro ⟨a, b⟩
  refine ⟨?_, b⟩
  split at a <;> omega
 ·intro ⟨a, b⟩
  exact ⟨by rw [if_pos a]; exact a, b⟩
mutual
theorem walkM : ∀ (x : Ex) (d n m : Int), 1 ≤ d → d ≤ 17 → 0 ≤ n → n ≤ 256 →
  if n + szX x ≤ 256 ∧ zdc (17 - d).toNat x = true then ∃ m', zej zew d x (n, m) = .inl (n + szX x, m') else zej zew d x (n, m) = .inr ()
 | .nd op ix args => fun d n m hd h17 h0 hn => by
  rw [zej, szX]
  unfold zew
  have hs0 := zcw args
  by_cases hs : n + 1 > 256 ∨ d > 16
  ·rw [if_pos hs, if_neg]
   intro ⟨a, b⟩
   rcases hs with hs | hs
   ·omega
   ·rw [show (17 - d).toNat = 0 by omega] at b
    simp [zdc] at b
  ·rw [if_neg hs, show (17 - d).toNat = (16 - d).toNat + 1 by omega, zgm, ← Int.add_assoc]
   exact walkLM args d (n + 1) (zk0 m d) hd (by omega) (by omega) (by omega)
theorem walkLM : ∀ (l : List Ex) (d n m : Int), 1 ≤ d → d ≤ 16 → 0 ≤ n → n ≤ 256 →
  if n + szL l ≤ 256 ∧ l.all (zdc (16 - d).toNat) = true then ∃ m', zet zew d l (n, m) = .inl (n + szL l, m') else zet zew d l (n, m) = .inr ()
 | [] => fun d n m hd h16 h0 hn => by
  rw [szL, zet, if_pos ⟨by omega, rfl⟩, Int.add_zero]
  exact ⟨m, rfl⟩
 | y :: ys => fun d n m hd h16 h0 hn => by
  have hy := walkM y (d + 1) n m (by omega) (by omega) h0 hn
  rw [zet, if_pos h16, szL]
  rw [show (17 - (d + 1)).toNat = (16 - d).toNat by omega] at hy
  have hp := zfr y
  have hq := zcw ys
  by_cases hc : n + szX y ≤ 256 ∧ zdc (16 - d).toNat y = true
  ·rw [if_pos hc] at hy
   obtain ⟨m', hy⟩ := hy
   rw [hy, List.all_cons, hc.2, Bool.true_and, ← Int.add_assoc]
   exact walkLM ys d (n + szX y) m' hd h16 (by omega) hc.1
  ·rw [if_neg hc] at hy
   rw [hy, if_neg]
   intro ⟨a, b⟩
   rw [List.all_cons, Bool.and_eq_true] at b
   exact hc ⟨by omega, b.1⟩
end
mutual
theorem walkC (z : Int) : ∀ (x : Ex) (d : Int), 1 ≤ d → d ≤ 17 → zdc (17 - d).toNat x = true → zej (zm1 z) d x () = if nds z x = 0 then .inl () else .inr (nds z x)
 | .nd op ix args => fun d hd h17 hb => by
  have h16 : d ≤ 16 := by
   by_cases h : d ≤ 16
   ·exact h
   ·rw [show (17 - d).toNat = 0 by omega] at hb
    simp [zdc] at hb
  rw [show (17 - d).toNat = (16 - d).toNat + 1 by omega, zgm] at hb
  rw [zej, nds]
  unfold zm1 zs9
  by_cases h : zc1 op ix args.length z = 0
  ·simp only [if_pos h]
   exact walkLC z args d hd h16 hb
  ·simp only [if_neg h]
theorem walkLC (z : Int) : ∀ (l : List Ex) (d : Int), 1 ≤ d → d ≤ 16 → l.all (zdc (16 - d).toNat) = true → zet (zm1 z) d l () = if zpv z l = 0 then .inl () else .inr (zpv z l)
 | [] => fun d hd h16 hb => by rw [zet, zpv, if_pos rfl]
 | y :: ys => fun d hd h16 hb => by
  rw [List.all_cons, Bool.and_eq_true] at hb
  have hy := walkC z y (d + 1) (by omega) (by omega) (by rw [show (17 - (d + 1)).toNat = (16 - d).toNat by omega]; exact hb.1)
  rw [zet, if_pos h16, hy, zpv]
  by_cases h : nds z y = 0
  ·simp only [if_pos h]
   exact walkLC z ys d hd h16 hb.2
  ·simp only [if_neg h]
end
def zdd (x : Ex) (n : Int) : Int := if n < 0 ∨ n > 256 then 2 else if zcp x = true then nds n x else 5
theorem zf6 (x : Ex) (n : Int) : zhu x n = zdd x n := by
 unfold zhu zdd
 split
 ·rfl
 ·have hw := walkM x 1 0 0 (by omega) (by omega) (by omega) (by omega)
  rw [Int.zero_add, show ((17 : Int) - 1).toNat = 16 from rfl] at hw
  by_cases hl : zcp x = true
  ·rw [if_pos ((zdx x).1 hl)] at hw
   obtain ⟨m', hw⟩ := hw
   rw [hw, if_pos hl]
   dsimp only
   rw [walkC n x 1 (by omega) (by omega) ((zdx x).1 hl).2]
   by_cases h : nds n x = 0
   ·rw [if_pos h]; exact h.symm
   ·rw [if_neg h]
  ·rw [if_neg (fun h => hl ((zdx x).2 h))] at hw
   rw [hw, if_neg hl]
-- pneumatic/pneumaticref05.Light
def ic48 : IC := .seq (.region [⟨(some 1), .box (.t 0), none⟩,
  ⟨(some 2), .mov (.c (.bool false)), none⟩] none)
 (.seq (.region [⟨(some 3), .load (some 3) (.t 1), none⟩,
  ⟨(some 4), .call (.c (.fn 67 [] [])) [(.t 3), (.c (.int .i64 256))], none⟩,
  ⟨(some 5), .bin .leq (.t 4) (.c (.int .i64 256)), none⟩,
  ⟨(some 6), .mov (.t 5), none⟩,
  ⟨(some 7), .load (some 3) (.t 1), some (6, true)⟩,
  ⟨(some 8), .call (.c (.fn 78 [] [])) [(.t 7), (.c (.int .i64 16))], some (6, true)⟩,
  ⟨(some 9), .pick (.t 6) (.t 8) (.c (.bool false)), none⟩,
  ⟨(some 2), .mov (.t 9), none⟩] none)
 (.ret))
theorem fn48 : env0.fn 48 = some ⟨10, ic48, [.t 2]⟩ := by kernel_rfl
theorem zmz (x : Ex) (hs : Slim x) : PF Try.prog 48 [.agg (cX x)] (.bool (zcp x)) := by
 have h72 := zqz _ x 256 (Nat.le_refl _) hs (by decide) (by decide)
 have h73 := deep73 16 x 16 rfl (by decide) hs
 have hl : zcp x = (decide (cnt 256 x ≤ 256) && zdc 16 x) := rfl
 rw [hl]
 obtain ⟨op, ix, args⟩ := x
 refine zbx env0_ok fn48 [(0, .agg (cX (.nd op ix args)))] (by show 1 ≤ 10; decide) rfl fun w0 N0 => ?_
 unfold ic48
 repeat (first | refine zai ?_ | refine za0 rfl ?_ | refine zab ?_ | refine zac ?_ | refine zad rfl ?_ | refine zar rfl rfl rfl rfl ?_ | refine zbd rfl rfl ?_)
 refine zbn rfl rfl h72 (fun h => Bool.noConfusion (show false = true from h)) ?_
 refine zbm rfl rfl rfl (fun h1 => ?_) fun h1 => ?_
 ·rw [h1, Bool.true_and]
  repeat (first | refine zbs rfl ?_ | refine zad rfl ?_ | refine zar rfl rfl rfl rfl ?_)
  refine zbn rfl rfl h73 (fun h => Bool.noConfusion (show false = true from h)) ?_
  repeat (first | refine zab ?_ | refine zac ?_ | refine zaz ?_ | refine zad rfl ?_ | refine zah rfl rfl ?_)
  exact zbe ⟨.inr rfl, _, rfl, rfl⟩
 ·rw [h1, Bool.false_and]
  repeat (first | refine zab ?_ | refine zac ?_ | refine zaz ?_ | refine zbu rfl rfl ?_ | refine zad rfl ?_ | refine zaa rfl rfl ?_)
  exact zbe ⟨.inr rfl, _, rfl, rfl⟩
-- pneumatic/pneumaticref05.Check
def ic33 : IC := .seq (.region [⟨(some 2), .box (.t 0), none⟩,
  ⟨(some 4), .mov (.c (.int .i64 0)), none⟩] none)
 (.seq (.seq (.region [⟨(some 5), .mov (.t 1), none⟩,
  ⟨(some 6), .bin .lss (.t 5) (.c (.int .i64 0)), none⟩,
  ⟨(some 7), .mov (.t 6), none⟩,
  ⟨(some 8), .mov (.t 1), some (7, false)⟩,
  ⟨(some 9), .bin .gtr (.t 8) (.c (.int .i64 256)), some (7, false)⟩,
  ⟨(some 10), .pick (.t 7) (.c (.bool true)) (.t 9), none⟩] none)
 (.cond (.t 10) (.seq (.region [⟨(some 4), .mov (.c (.int .i64 2)), none⟩] none)
 (.ret))
 (.skip)))
 (.seq (.seq (.region [⟨(some 11), .load (some 3) (.t 2), none⟩,
  ⟨(some 12), .call (.c (.fn 48 [] [])) [(.t 11)], none⟩,
  ⟨(some 13), .un .not (.t 12), none⟩] none)
 (.cond (.t 13) (.seq (.region [⟨(some 4), .mov (.c (.int .i64 5)), none⟩] none)
 (.ret))
 (.skip)))
 (.seq (.region [⟨(some 14), .load (some 3) (.t 2), none⟩,
  ⟨(some 15), .mov (.t 1), none⟩,
  ⟨(some 16), .call (.c (.fn 71 [] [])) [(.t 14), (.t 15)], none⟩,
  ⟨(some 4), .mov (.t 16), none⟩] none)
 (.ret))))
theorem fn33 : env0.fn 33 = some ⟨17, ic33, [.t 4]⟩ := by kernel_rfl
theorem zqu (x : Ex) (hs : Slim x) (n : Int) : PF Try.prog 33 [.agg (cX x), .int .i64 n] (.int .i64 (zdd x n)) := by
 have h47 := zmz x hs
 have h89 : zcp x = true → PF Try.prog 71 [.agg (cX x), .int .i64 n] (.int .i64 (nds n x)) := fun h => nodes89 n _ x (Nat.le_refl _) (zt4 x ((zdx x).1 h).1)
 obtain ⟨op, ix, args⟩ := x
 refine zbx env0_ok fn33 [(0, .agg (cX (.nd op ix args))), (1, .int .i64 n)] (by show 2 ≤ 17; decide) rfl fun w0 N0 => ?_
 unfold ic33 zdd
 repeat (first | refine zai ?_ | refine za0 rfl ?_ | refine zab ?_ | refine zac ?_ | refine zad rfl ?_ | refine zbd rfl rfl ?_)
 refine zbm rfl rfl rfl (fun h1 => ?_) fun h1 => ?_
 ·rw [if_pos (.inl (of_decide_eq_true h1))]
  repeat (first | refine zai ?_ | refine za0 rfl ?_ | refine zab ?_ | refine zac ?_ | refine zbl rfl ?_ | refine zaz ?_ | refine za2 ?_ | refine zbu rfl rfl ?_ | refine zad rfl ?_ | refine zah rfl rfl ?_)
  exact zbe ⟨.inr rfl, _, rfl, rfl⟩
 repeat (first | refine zbs rfl ?_ | refine zad rfl ?_)
 refine zbm rfl rfl rfl (fun h2 => ?_) fun h2 => ?_
 ·rw [if_pos (.inr (of_decide_eq_true h2))]
  repeat (first | refine zai ?_ | refine za0 rfl ?_ | refine zab ?_ | refine zac ?_ | refine zbl rfl ?_ | refine zaz ?_ | refine za2 ?_ | refine zad rfl ?_ | refine zaa rfl rfl ?_)
  exact zbe ⟨.inr rfl, _, rfl, rfl⟩
 rw [if_neg (fun h => h.elim (of_decide_eq_false h1) (of_decide_eq_false h2))]
 repeat (first | refine zai ?_ | refine za0 rfl ?_ | refine zab ?_ | refine zac ?_ | refine zat ?_ | refine zbo rfl ?_ | refine zar rfl rfl rfl rfl ?_ | refine zaa rfl rfl ?_)
 cases hl : zcp (.nd op ix args) with
 | true =>
  rw [hl] at h47
  rw [if_pos rfl]
  refine zbn rfl rfl h47 (fun h => Bool.noConfusion (show false = true from h)) ?_
  repeat (first | refine zai ?_ | refine za0 rfl ?_ | refine zab ?_ | refine zac ?_ | refine zat ?_ | refine zbo rfl ?_ | refine zad rfl ?_ | refine zar rfl rfl rfl rfl ?_ | refine zc2 rfl rfl ?_)
  refine zbn rfl rfl (h89 hl) (fun h => Bool.noConfusion (show false = true from h)) ?_
  repeat (first | refine zab ?_ | refine zac ?_ | refine zaz ?_ | refine zad rfl ?_)
  exact zbe ⟨.inr rfl, _, rfl, rfl⟩
 | false =>
  rw [hl] at h47
  rw [if_neg (by simp)]
  refine zbn rfl rfl h47 (fun h => Bool.noConfusion (show false = true from h)) ?_
  repeat (first | refine zai ?_ | refine za0 rfl ?_ | refine zab ?_ | refine zac ?_ | refine zbl rfl ?_ | refine zaz ?_ | refine za2 ?_ | refine zad rfl ?_ | refine zc2 rfl rfl ?_)
  exact zbe ⟨.inr rfl, _, rfl, rfl⟩
end Go.Proofs.Ytmnkjofaodbokaa
namespace Go.Proofs.Ytmnkjofaodbokaa
open Go Go.Am
mutual
def zc4 (v : List Bool) : Ex → Bool
 | .nd op ix args => if op = 0 then ix == 1 else if op = 1 then v.getD ix.toNat false else if op = 2 then !(zev v args).headD false else if op = 3 then (zev v args).all id else (zev v args).any id
def zev (v : List Bool) : List Ex → List Bool
 | [] => []
 | y :: ys => zc4 v y :: zev v ys
end
theorem zg1 (v : List Bool) : ∀ l : List Ex, zev v l = l.map (zc4 v)
 | [] => by simp [zev]
 | y :: ys => by simp [zev, zg1 v ys]
def vsB (v : List Bool) : AV := .vs (v.map fun b => [.bool b])
theorem zo8 {n op ix : Int} {args : List Ex} (h : nds n (.nd op ix args) = 0) : zc1 op ix args.length n = 0 ∧ ∀ y ∈ args, nds n y = 0 := by
 rw [nds] at h
 split at h
 ·rename_i h1
  refine ⟨h1, ?_⟩
  clear h1
  induction args with
  | nil => exact fun _ hy => absurd hy List.not_mem_nil
  | cons y ys ih =>
   rw [zpv] at h
   split at h
   ·rename_i h2
    intro z hz
    rcases List.mem_cons.1 hz with rfl | hm
    ·exact h2
    ·exact ih h z hm
   ·rename_i h2; exact absurd h h2
 ·rename_i h1; exact absurd h h1
theorem zob {op ix k n : Int} (h : zc1 op ix k n = 0) : 0 ≤ op ∧ op < 5 ∧ zbt op ≤ k ∧ k ≤ zca op ∧ 0 ≤ ix ∧ ix ≤ zcd op n := by
 unfold zc1 at h
 split at h
 ·exact absurd h (by decide)
 ·split at h
  ·exact absurd h (by decide)
  ·split at h
   ·exact absurd h (by decide)
   ·omega
theorem vs_get (v : List Bool) (i : Nat) (h : i < v.length) : (v.map fun b => ([.bool b] : List AV))[i]? = some [.bool (v.getD i false)] := by
 rw [List.getElem?_map, List.getElem?_eq_getElem h, List.getD_eq_getElem?_getD, List.getElem?_eq_getElem h]
 rfl
def zqn : IC := .seq (.seq (.region [⟨(some 32), .mov (.t 7), none⟩,
  ⟨(some 33), .faddr 2 (.t 2), none⟩,
  ⟨(some 34), .load none (.t 33), none⟩,
  ⟨(some 35), .len false (.t 34), none⟩,
  ⟨(some 36), .bin .lss (.t 32) (.t 35), none⟩] none)
 (.cond (.t 36) (.skip)
 (.exit 1)))
 (.seq (.block 2 (.seq (.region [⟨(some 39), .faddr 2 (.t 2), none⟩,
  ⟨(some 40), .load none (.t 39), none⟩,
  ⟨(some 41), .mov (.t 7), none⟩,
  ⟨(some 42), .idxs 3 (.t 40) (.t 41), none⟩,
  ⟨(some 43), .load (some 3) (.t 42), none⟩,
  ⟨(some 44), .mov (.t 1), none⟩,
  ⟨(some 45), .call (.c (.fn 54 [] [])) [(.t 43), (.t 44)], none⟩,
  ⟨(some 8), .mov (.t 45), none⟩] none)
 (.region [⟨(some 46), .mov (.t 5), none⟩,
  ⟨(some 47), .mov (.t 46), none⟩,
  ⟨(some 48), .mov (.t 8), some (47, true)⟩,
  ⟨(some 49), .pick (.t 47) (.t 48) (.c (.bool false)), none⟩,
  ⟨(some 50), .mov (.t 6), none⟩,
  ⟨(some 51), .mov (.t 50), none⟩,
  ⟨(some 52), .mov (.t 8), some (51, false)⟩,
  ⟨(some 53), .pick (.t 51) (.c (.bool true)) (.t 52), none⟩,
  ⟨(some 5), .mov (.t 49), none⟩,
  ⟨(some 6), .mov (.t 53), none⟩] none)))
 (.region [⟨(some 37), .mov (.t 7), none⟩,
  ⟨(some 38), .bin .add (.t 37) (.c (.int .i64 1)), none⟩,
  ⟨(some 7), .mov (.t 38), none⟩] none))
-- pneumatic/pneumaticref05.Holds
def ic54 : IC := .seq (.region [⟨(some 2), .box (.t 0), none⟩,
  ⟨(some 4), .mov (.c (.bool false)), none⟩] none)
 (.seq (.seq (.region [⟨(some 9), .faddr 0 (.t 2), none⟩,
  ⟨(some 10), .load none (.t 9), none⟩] none)
 (.block 0 (.seq (.region [⟨(some 12), .bin .eql (.t 10) (.c (.int .i64 0)), none⟩,
  ⟨(some 11), .mov (.t 12), none⟩] none)
 (.cond (.t 11) (.seq (.region [⟨(some 13), .faddr 1 (.t 2), none⟩,
  ⟨(some 14), .load none (.t 13), none⟩,
  ⟨(some 15), .bin .eql (.t 14) (.c (.int .i64 1)), none⟩,
  ⟨(some 4), .mov (.t 15), none⟩] none)
 (.ret))
 (.seq (.region [⟨(some 17), .bin .eql (.t 10) (.c (.int .i64 1)), none⟩,
  ⟨(some 16), .mov (.t 17), none⟩] none)
 (.cond (.t 16) (.seq (.region [⟨(some 18), .mov (.t 1), none⟩,
  ⟨(some 19), .faddr 1 (.t 2), none⟩,
  ⟨(some 20), .load none (.t 19), none⟩,
  ⟨(some 21), .idxs 1 (.t 18) (.t 20), none⟩,
  ⟨(some 22), .load none (.t 21), none⟩,
  ⟨(some 4), .mov (.t 22), none⟩] none)
 (.ret))
 (.seq (.region [⟨(some 24), .bin .eql (.t 10) (.c (.int .i64 2)), none⟩,
  ⟨(some 23), .mov (.t 24), none⟩] none)
 (.cond (.t 23) (.seq (.region [⟨(some 25), .faddr 2 (.t 2), none⟩,
  ⟨(some 26), .load none (.t 25), none⟩,
  ⟨(some 27), .idxs 3 (.t 26) (.c (.int .i64 0)), none⟩,
  ⟨(some 28), .load (some 3) (.t 27), none⟩,
  ⟨(some 29), .mov (.t 1), none⟩,
  ⟨(some 30), .call (.c (.fn 54 [] [])) [(.t 28), (.t 29)], none⟩,
  ⟨(some 31), .un .not (.t 30), none⟩,
  ⟨(some 4), .mov (.t 31), none⟩] none)
 (.ret))
 (.skip)))))))))
 (.seq (.region [⟨(some 5), .mov (.c (.bool true)), none⟩,
  ⟨(some 6), .mov (.c (.bool false)), none⟩] none)
 (.seq (.seq (.region [⟨(some 7), .mov (.c (.int .i64 0)), none⟩] none)
 (.block 1 (.loop zqn)))
 (.seq (.region [⟨(some 54), .faddr 0 (.t 2), none⟩,
  ⟨(some 55), .load none (.t 54), none⟩,
  ⟨(some 56), .bin .eql (.t 55) (.c (.int .i64 3)), none⟩,
  ⟨(some 57), .mov (.t 56), none⟩,
  ⟨(some 58), .mov (.t 5), some (57, true)⟩,
  ⟨(some 59), .pick (.t 57) (.t 58) (.c (.bool false)), none⟩,
  ⟨(some 60), .mov (.t 59), none⟩,
  ⟨(some 61), .faddr 0 (.t 2), some (60, false)⟩,
  ⟨(some 62), .load none (.t 61), some (60, false)⟩,
  ⟨(some 63), .bin .eql (.t 62) (.c (.int .i64 4)), some (60, false)⟩,
  ⟨(some 64), .mov (.t 63), some (60, false)⟩,
  ⟨(some 65), .mov (.t 6), some (64, true)⟩,
  ⟨(some 66), .pick (.t 64) (.t 65) (.c (.bool false)), some (60, false)⟩,
  ⟨(some 67), .pick (.t 60) (.c (.bool true)) (.t 66), none⟩,
  ⟨(some 4), .mov (.t 67), none⟩] none)
 (.ret)))))
theorem fn54 : env0.fn 54 = some ⟨68, ic54, [.t 4]⟩ := by kernel_rfl
set_option maxHeartbeats 4000000 in
theorem zrl (v : List Bool) : ∀ (q : Nat) (x : Ex), SizeOf.sizeOf x ≤ q → nds v.length x = 0 → PF Try.prog 54 [.agg (cX x), vsB v] (.bool (zc4 v x)) := by
 intro q
 induction q with
 | zero => intro x hq; cases x; simp at hq
 | succ q ih =>
 intro x hq hs
 obtain ⟨op, ix, args⟩ := x
 obtain ⟨hn, hch⟩ := zo8 hs
 obtain ⟨o0, o5, kl, km, i0, im⟩ := zob hn
 have hlen : args.length ≤ 256 := by
  unfold zca at km
  (repeat' split at km) <;> omega
 have hop : op = 0 ∨ op = 1 ∨ op = 2 ∨ op = 3 ∨ op = 4 := by omega
 have hd : zc4 v (.nd op ix args) = if op = 0 then ix == 1 else if op = 1 then v.getD ix.toNat false else if op = 2 then !(zev v args).headD false else if op = 3 then (zev v args).all id else (zev v args).any id := by rw [zc4]
 rw [hd]
 refine zbx env0_ok fn54 [(0, .agg (cX (.nd op ix args))), (1, vsB v)] (by show 2 ≤ 68; decide) rfl fun w0 N0 => ?_
 unfold ic54
 rcases hop with rfl | rfl | rfl | rfl | rfl
 ·rw [if_pos rfl]
  repeat (first | refine zai ?_ | refine za0 rfl ?_ | refine zab ?_ | refine zac ?_ | refine zaj ?_ | refine zbl rfl ?_ | refine zad rfl ?_ | refine zam rfl rfl ?_ | refine za5 rfl ?_ | refine zbd rfl rfl ?_ | refine zb2 rfl rfl rfl ?_)
  refine zbm rfl rfl rfl (fun h1 => ?_) fun h1 => ?_
  ·rw [h1]
   repeat (first | refine zab ?_ | refine zac ?_ | refine zaz ?_ | refine za2 ?_ | refine za7 ?_ | refine zad rfl ?_)
   exact zbe ⟨.inr rfl, _, rfl, rfl⟩
  ·rw [h1]
   repeat (first | refine zab ?_ | refine zac ?_ | refine zaz ?_ | refine za2 ?_ | refine za7 ?_ | refine zad rfl ?_)
   exact zbe ⟨.inr rfl, _, rfl, rfl⟩
 ·rw [if_neg (by decide), if_pos rfl]
  repeat (first | refine zai ?_ | refine za0 rfl ?_ | refine zab ?_ | refine zac ?_ | refine zaj ?_ | refine zbl rfl ?_ | refine zbo rfl ?_ | refine zad rfl ?_ | refine zam rfl rfl ?_ | refine za5 rfl ?_ | refine zbd rfl rfl ?_ | refine zb2 rfl rfl rfl ?_ | refine zb1 rfl rfl rfl ?_)
  have hi : ix.toNat < v.length := by
   simp [zcd] at im
   omega
  refine zb3 rfl rfl i0 (vs_get v _ hi) rfl ?_
  repeat (first | refine zab ?_ | refine zac ?_ | refine zaz ?_ | refine za2 ?_ | refine za7 ?_ | refine zad rfl ?_ | refine zam rfl rfl ?_)
  exact zbe ⟨.inr rfl, _, rfl, rfl⟩
 ·rw [if_neg (by decide), if_neg (by decide), if_pos rfl]
  have h1 : args.length = 1 := by simp [zbt, zca] at kl km; omega
  obtain ⟨y, rfl⟩ := List.length_eq_one_iff.1 h1
  obtain ⟨yo, yi, ya⟩ := y
  have hhd : (zev v [.nd yo yi ya]).headD false = zc4 v (.nd yo yi ya) := by rw [zev]; rfl
  rw [hhd]
  repeat (first | refine zai ?_ | refine za0 rfl ?_ | refine zab ?_ | refine zac ?_ | refine zaj ?_ | refine zbl rfl ?_ | refine zbo rfl ?_ | refine zad rfl ?_ | refine zam rfl rfl ?_ | refine za5 rfl ?_ | refine zbd rfl rfl ?_ | refine zb2 rfl rfl rfl ?_ | refine zb1 rfl rfl rfl ?_)
  refine zb3 rfl rfl (Int.le_refl 0) (zd8 (l := [.nd yo yi ya]) (i := 0) (Nat.zero_lt_one)) rfl ?_
  repeat (first | refine zad rfl ?_ | refine zar rfl rfl rfl rfl ?_)
  refine zbn rfl rfl (ih (.nd yo yi ya) (by have := zgd (op := 2) (ix := ix) (List.mem_singleton_self (Ex.nd yo yi ya)); omega) (hch _ (List.mem_singleton_self _))) (fun h => Bool.noConfusion (show false = true from h)) ?_
  repeat (first | refine zab ?_ | refine zac ?_ | refine zaz ?_ | refine za2 ?_ | refine za7 ?_ | refine zad rfl ?_ | refine zc2 rfl rfl ?_)
  exact zbe ⟨.inr rfl, _, rfl, rfl⟩
 ·rw [if_neg (by decide), if_neg (by decide), if_neg (by decide), if_pos rfl, zg1]
  repeat (first | refine zai ?_ | refine za0 rfl ?_ | refine zab ?_ | refine zac ?_ | refine zbg ?_ | refine zaj ?_ | refine zat ?_ | refine zbo rfl ?_ | refine zad rfl ?_ | refine zam rfl rfl ?_ | refine za5 rfl ?_ | refine zbd rfl rfl ?_ | refine zb1 rfl rfl rfl ?_)
  refine ze5 (fun mm S => ∃ i a s, mm = args.length - i ∧ i ≤ args.length ∧ (a && ((args.drop i).map (zc4 v)).all id) = (args.map (zc4 v)).all id ∧ (s || ((args.drop i).map (zc4 v)).any id) = (args.map (zc4 v)).any id ∧
    S = st 68 [(1, vsB v), (2, .mptr 0 0 0), (5, .bool a), (6, .bool s), (7, .int .i64 (i : Nat))] [(0, 0, .cells (cX (.nd 3 ix args)))] 1 1) args.length
   (zbq (.cons rfl (.cons rfl (.cons rfl (.cons rfl (.cons rfl .nil)))))) ⟨0, true, false, rfl, Nat.zero_le _, by rw [Bool.true_and]; rfl, by rw [Bool.false_or]; rfl, rfl⟩ ?_
  rintro mm S ⟨i, a, s, rfl, hi, hal, han, rfl⟩
  unfold zqn
  repeat (first | refine zai ?_ | refine za0 rfl ?_ | refine zad rfl ?_ | refine zam rfl rfl ?_ | refine za5 rfl ?_ | refine zbh rfl rfl ?_)
  refine zbm rfl rfl rfl (fun h3 => ?_) fun h3 => ?_
  ·have hlt : i < args.length := by
    have := of_decide_eq_true h3
    rw [zbi] at this
    omega
   have hdr : args.drop i = args[i] :: args.drop (i + 1) := List.drop_eq_getElem_cons hlt
   rw [hdr, List.map_cons] at hal han
   rw [List.all_cons] at hal
   rw [List.any_cons] at han
   have hge := zd8 hlt
   have hmem : args[i] ∈ args := List.getElem_mem hlt
   generalize args[i] = y at hal han hge hmem
   obtain ⟨yo, yi, ya⟩ := y
   repeat (first | refine zai ?_ | refine za0 rfl ?_ | refine zab ?_ | refine zac ?_ | refine zaj ?_ | refine zat ?_ | refine zbl rfl ?_ | refine zad rfl ?_ | refine zam rfl rfl ?_ | refine za5 rfl ?_)
   refine zb3 rfl rfl (Int.natCast_nonneg i) hge rfl ?_
   repeat (first | refine zad rfl ?_ | refine zar rfl rfl rfl rfl ?_)
   refine zbn rfl rfl (ih (.nd yo yi ya) (by have := zgd (op := 3) (ix := ix) hmem; omega) (hch _ hmem)) (fun h => Bool.noConfusion (show false = true from h)) ?_
   generalize zc4 v (.nd yo yi ya) = r at hal han
   cases a <;> cases s
   all_goals
    repeat (first | refine za0 rfl ?_ | refine zab ?_ | refine zac ?_ | refine zbg ?_ | refine zbs rfl ?_ | refine zbu rfl rfl ?_ | refine zad rfl ?_ | refine zah rfl rfl ?_ | refine zaa rfl rfl ?_ | refine zav (op := .add) rfl rfl rfl ?_)
    rw [zc8 i (by omega)]
    exact zcs (show args.length - (i + 1) < args.length - i by omega) (zbq (.cons rfl (.cons rfl (.cons rfl (.cons rfl (.cons rfl .nil)))))) ⟨i + 1, _, _, rfl, hlt, by simpa using hal, by simpa using han, rfl⟩
  ·have hi2 : i = args.length := by
    have := of_decide_eq_false h3
    rw [zbi] at this
    omega
   subst hi2
   rw [List.drop_length] at hal han
   have hal : a = (args.map (zc4 v)).all id := by simpa using hal
   have han : s = (args.map (zc4 v)).any id := by simpa using han
   rw [← hal]
   clear hal han
   repeat (first | refine zab ?_ | refine zac ?_ | refine zbo rfl ?_ | refine zb5 ?_ | refine za6 ?_)
   refine zfs ?_
   repeat (first | refine zai ?_ | refine za0 rfl ?_ | refine zac ?_ | refine zb4 ?_ | refine zbs rfl ?_ | refine zad rfl ?_ | refine zam rfl rfl ?_ | refine za5 rfl ?_ | refine zah rfl rfl ?_ | refine zb2 rfl rfl rfl ?_)
   cases a <;> cases s
   all_goals
    repeat (first | refine zab ?_ | refine zac ?_ | refine zaz ?_ | refine zbs rfl ?_ | refine zbu rfl rfl ?_ | refine zc6 rfl ?_ | refine zad rfl ?_ | refine zam rfl rfl ?_ | refine za5 rfl ?_ | refine zah rfl rfl ?_ | refine zaa rfl rfl ?_ | refine zb1 rfl rfl rfl ?_)
    exact zbe ⟨.inr rfl, _, rfl, rfl⟩
 ·rw [if_neg (by decide), if_neg (by decide), if_neg (by decide), if_neg (by decide), zg1]
  repeat (first | refine zai ?_ | refine za0 rfl ?_ | refine zab ?_ | refine zac ?_ | refine zbg ?_ | refine zaj ?_ | refine zat ?_ | refine zbo rfl ?_ | refine zad rfl ?_ | refine zam rfl rfl ?_ | refine za5 rfl ?_ | refine zbd rfl rfl ?_ | refine zb1 rfl rfl rfl ?_)
  refine ze5 (fun mm S => ∃ i a s, mm = args.length - i ∧ i ≤ args.length ∧ (a && ((args.drop i).map (zc4 v)).all id) = (args.map (zc4 v)).all id ∧ (s || ((args.drop i).map (zc4 v)).any id) = (args.map (zc4 v)).any id ∧
    S = st 68 [(1, vsB v), (2, .mptr 0 0 0), (5, .bool a), (6, .bool s), (7, .int .i64 (i : Nat))] [(0, 0, .cells (cX (.nd 4 ix args)))] 1 1) args.length
   (zbq (.cons rfl (.cons rfl (.cons rfl (.cons rfl (.cons rfl .nil)))))) ⟨0, true, false, rfl, Nat.zero_le _, by rw [Bool.true_and]; rfl, by rw [Bool.false_or]; rfl, rfl⟩ ?_
  rintro mm S ⟨i, a, s, rfl, hi, hal, han, rfl⟩
  unfold zqn
  repeat (first | refine zai ?_ | refine za0 rfl ?_ | refine zad rfl ?_ | refine zam rfl rfl ?_ | refine za5 rfl ?_ | refine zbh rfl rfl ?_)
  refine zbm rfl rfl rfl (fun h3 => ?_) fun h3 => ?_
  ·have hlt : i < args.length := by
    have := of_decide_eq_true h3
    rw [zbi] at this
    omega
   have hdr : args.drop i = args[i] :: args.drop (i + 1) := List.drop_eq_getElem_cons hlt
   rw [hdr, List.map_cons] at hal han
   rw [List.all_cons] at hal
   rw [List.any_cons] at han
   have hge := zd8 hlt
   have hmem : args[i] ∈ args := List.getElem_mem hlt
   generalize args[i] = y at hal han hge hmem
   obtain ⟨yo, yi, ya⟩ := y
   repeat (first | refine zai ?_ | refine za0 rfl ?_ | refine zab ?_ | refine zac ?_ | refine zaj ?_ | refine zat ?_ | refine zbl rfl ?_ | refine zad rfl ?_ | refine zam rfl rfl ?_ | refine za5 rfl ?_)
   refine zb3 rfl rfl (Int.natCast_nonneg i) hge rfl ?_
   repeat (first | refine zad rfl ?_ | refine zar rfl rfl rfl rfl ?_)
   refine zbn rfl rfl (ih (.nd yo yi ya) (by have := zgd (op := 4) (ix := ix) hmem; omega) (hch _ hmem)) (fun h => Bool.noConfusion (show false = true from h)) ?_
   generalize zc4 v (.nd yo yi ya) = r at hal han
   cases a <;> cases s
   all_goals
    repeat (first | refine za0 rfl ?_ | refine zab ?_ | refine zac ?_ | refine zbg ?_ | refine zbs rfl ?_ | refine zbu rfl rfl ?_ | refine zad rfl ?_ | refine zah rfl rfl ?_ | refine zaa rfl rfl ?_ | refine zav (op := .add) rfl rfl rfl ?_)
    rw [zc8 i (by omega)]
    exact zcs (show args.length - (i + 1) < args.length - i by omega) (zbq (.cons rfl (.cons rfl (.cons rfl (.cons rfl (.cons rfl .nil)))))) ⟨i + 1, _, _, rfl, hlt, by simpa using hal, by simpa using han, rfl⟩
  ·have hi2 : i = args.length := by
    have := of_decide_eq_false h3
    rw [zbi] at this
    omega
   subst hi2
   rw [List.drop_length] at hal han
   have hal : a = (args.map (zc4 v)).all id := by simpa using hal
   have han : s = (args.map (zc4 v)).any id := by simpa using han
   rw [← han]
   clear hal han
   repeat (first | refine zab ?_ | refine zac ?_ | refine zbo rfl ?_ | refine zb5 ?_ | refine za6 ?_)
   refine zfs ?_
   repeat (first | refine zai ?_ | refine za0 rfl ?_ | refine zab ?_ | refine zac ?_ | refine zaz ?_ | refine zb4 ?_ | refine zbs rfl ?_ | refine zbu rfl rfl ?_ | refine zad rfl ?_ | refine zam rfl rfl ?_ | refine za5 rfl ?_ | refine zah rfl rfl ?_ | refine zaa rfl rfl ?_ | refine zb2 rfl rfl rfl ?_ | refine zb1 rfl rfl rfl ?_)
   cases a <;> cases s
   all_goals
    exact zbe ⟨.inr rfl, _, rfl, rfl⟩
end Go.Proofs.Ytmnkjofaodbokaa
namespace Go.Proofs.Ytmnkjofaodbokaa
open Go Go.Am
def body81 : IC := .seq (.region [⟨(some 10), .bin .lss (.t 9) (.t 8), none⟩] none)
 (.seq (.cond (.t 10) (.skip)
 (.exit 0))
 (.seq (.block 1 (.seq (.region [⟨(some 11), .idxs 3 (.t 7) (.t 9), none⟩,
  ⟨(some 12), .load (some 3) (.t 11), none⟩,
  ⟨(some 5), .alloc [.int .i64 0, .int .i64 0, .nils], none⟩,
  ⟨none, .store 3 (.t 5) (.t 12), none⟩] none)
 (.seq (.region [⟨(some 13), .mov (.t 0), none⟩,
  ⟨(some 14), .load (some 3) (.t 5), none⟩,
  ⟨(some 15), .load none (.t 2), none⟩,
  ⟨(some 16), .call (.c (.fn 53 [] [])) [(.t 14), (.t 15)], none⟩,
  ⟨(some 17), .call (.t 13) [(.t 16)], none⟩,
  ⟨(some 18), .un .not (.t 17), none⟩] none)
 (.cond (.t 18) (.ret)
 (.skip)))))
 (.region [⟨(some 19), .bin .add (.t 9) (.c (.int .i64 1)), none⟩,
  ⟨(some 9), .mov (.t 19), none⟩] none)))
-- pneumatic/boolexp.eval$1
def ic81 : IC := .seq (.region [⟨(some 6), .faddr 2 (.t 1), none⟩,
  ⟨(some 7), .load none (.t 6), none⟩,
  ⟨(some 8), .len false (.t 7), none⟩,
  ⟨(some 9), .mov (.c (.int .i64 0)), none⟩] none)
 (.block 0 (.loop body81))
theorem fn81 : env0.fn 81 = some ⟨20, ic81, []⟩ := by kernel_rfl
def tabE : Tab := [
 (102, [
  ([.bool false], .fn 119 [] [.vptr [.bool false]]),
  ([.bool true], .fn 119 [] [.vptr [.bool true]])])]
theorem tabE_ok : TabOk Try.prog tabE := TabOk.of_run (env0_ok.tab TabOk.nil (pure := [])) (n := 60) (by kernel_rfl)
theorem every111 : PF Try.prog 102 [.bool false] (.fn 119 [] [.vptr [.bool false]]) := tabE_ok _ (List.mem_cons_self ..) _ (List.mem_cons_self ..)
section
variable {σ τ : Type} {step : σ → Bool → σ ⊕ τ} {M : Nat → Prop} {I : σ → HS → Prop} {J : τ → HS → Prop}
def zk5 (step : σ → Bool → σ ⊕ τ) : List Bool → σ → σ ⊕ τ
 | [], s => .inl s
 | b :: l, s => match step s b with
  | .inl s' => zk5 step l s'
  | .inr t => .inr t
set_option maxHeartbeats 2000000 in
theorem seq110 {w0 : World} {N0 id sp : Nat} (v : List Bool) (op ix : Int) (args : List Ex) (hlen : args.length ≤ 256) (hev : ∀ y ∈ args, PF Try.prog 53 [.agg (cX y), vsB v] (.bool (zc4 v y))) (hloc : Local M I) (hy : ∀ s b H, I s H → CT Try.prog w0 N0 (.yield id sp) [.bool b] H (Left M I J H (step s b))) (H : HS) (s : σ) (hI : I s H) :
  FT Try.prog w0 N0 81 [.yield id sp, .vptr (cX (.nd op ix args)), .vptr [vsB v]] H fun _ H' => Keep M H H' ∧ match zk5 step (args.map (zc4 v)) s with
   | .inl s' => I s' H'
   | .inr t => J t H' := by
 refine zm6 env0_ok fn81 [(0, .yield id sp), (1, .vptr (cX (.nd op ix args))), (2, .vptr [vsB v])] (by show 3 ≤ 20; decide) rfl ?_
 unfold ic81
 repeat (first | refine zai ?_ | refine za0 rfl ?_ | refine zab ?_ | refine zac ?_ | refine zaj ?_ | refine zad rfl ?_ | refine zam rfl rfl ?_ | refine zal rfl rfl rfl ?_ | refine zbh rfl rfl ?_)
 refine ze5 (fun m S => ∃ i s' H', m = args.length - i ∧ i ≤ args.length ∧ zk5 step (args.map (zc4 v)) s = zk5 step ((args.drop i).map (zc4 v)) s' ∧ I s' H' ∧ Keep M H H' ∧
   S = st 20 [(0, .yield id sp), (2, .vptr [vsB v]), (7, .vs (cXs args)), (8, .int .i64 (cXs args).length), (9, .int .i64 (i : Nat))] H'.heap H'.next H'.clk) args.length
  (zbq (.cons rfl (.cons rfl (.cons rfl (.cons rfl (.cons rfl .nil)))))) ⟨0, s, H, rfl, Nat.zero_le _, rfl, hI, Keep.refl M H, rfl⟩ ?_
 rintro m S ⟨i, s', H', rfl, hi, hwl, hI', hK', rfl⟩
 unfold body81
 repeat (first | refine zai ?_ | refine za0 rfl ?_)
 refine zbm rfl rfl rfl (fun h1 => ?_) fun h1 => ?_
 ·have hlt : i < args.length := by
   have := of_decide_eq_true h1
   rw [zbi] at this
   omega
  have hd : args.drop i = args[i] :: args.drop (i + 1) := List.drop_eq_getElem_cons hlt
  rw [hd, List.map_cons] at hwl
  have hge := zd8 hlt
  have hmem : args[i] ∈ args := List.getElem_mem hlt
  generalize args[i] = y at hwl hge hmem
  have hevy := hev y hmem
  obtain ⟨yo, yi, ya⟩ := y
  repeat (first | refine zai ?_ | refine za0 rfl ?_ | refine zab ?_ | refine zac ?_ | refine zaj ?_ | refine zat ?_ | refine zbl rfl ?_)
  refine zb3 rfl rfl (Int.natCast_nonneg i) hge rfl ?_
  repeat (first | refine zar rfl rfl rfl rfl ?_ | refine zau ?_)
  refine zak rfl rfl rfl rfl zd5 rfl rfl ?_
  rw [zg7]
  repeat (first | refine zai ?_ | refine za0 rfl ?_ | refine zab ?_ | refine zac ?_ | refine zad rfl ?_)
  refine zhb rfl zd5 (Nat.lt_succ_self _) rfl rfl ?_
  repeat (first | refine zam rfl rfl ?_)
  refine zbn rfl rfl hevy (fun h => Bool.noConfusion (show false = true from h)) ?_
  refine o_ct _ rfl rfl (hy s' (zc4 v (.nd yo yi ya)) ⟨_, _, _⟩ (hloc.new hI' _ _)) (fun _ _ _ _ hm => absurd hm List.not_mem_nil) fun v2 H3 hF3 => ?_
  obtain ⟨hK3, hF3⟩ := hF3
  have hK4 : Keep M H H3 := hK'.trans ((Keep.new M H' _).trans hK3)
  cases hst : step s' (zc4 v (.nd yo yi ya)) with
  | inr t =>
   rw [hst] at hF3
   obtain ⟨rfl, hJ⟩ := hF3
   repeat (first | refine zab ?_ | refine zac ?_ | refine zbl rfl ?_ | refine zaz ?_ | refine za2 ?_ | refine za7 ?_ | refine zc2 rfl rfl ?_)
   refine zgf ?_
   repeat (first | refine za7 ?_)
   refine zbe ⟨.inr rfl, _, rfl, hK4, ?_⟩
   simp only [hwl, zk5, hst]
   exact hJ
  | inl s2 =>
   rw [hst] at hF3
   obtain ⟨rfl, hI2⟩ := hF3
   repeat (first | refine za0 rfl ?_ | refine zab ?_ | refine zac ?_ | refine zbg ?_ | refine zat ?_ | refine zbo rfl ?_ | refine zad rfl ?_ | refine zc2 rfl rfl ?_ | refine zav (op := .add) rfl rfl rfl ?_)
   rw [zc8 i (by omega)]
   exact zcs (show args.length - (i + 1) < args.length - i by omega) (zbq (.cons rfl (.cons rfl (.cons rfl (.cons rfl (.cons rfl .nil)))))) ⟨i + 1, s2, H3, rfl, hlt, by rw [hwl]; simp only [zk5, hst], hI2, hK4, rfl⟩
 ·have hi2 : i = args.length := by
   have := of_decide_eq_false h1
   rw [zbi] at this
   omega
  repeat (first | refine zai ?_ | refine zab ?_ | refine zac ?_ | refine zbo rfl ?_ | refine zb5 ?_ | refine za6 ?_)
  refine zfs ?_
  repeat (first | refine zb4 ?_)
  refine zbe ⟨.inl rfl, _, rfl, hK', ?_⟩
  subst hi2
  rw [List.drop_length] at hwl
  simp only [hwl, List.map_nil, zk5]
  exact hI'
end
noncomputable def zoz : Code := match env0.fn 119 with
 | some i => ((zd6 i.ic).headD (.skip, .skip)).1
 | none => .skip
noncomputable def zp2 : Code := match env0.fn 119 with
 | some i => ((zd6 i.ic).headD (.skip, .skip)).2
 | none => .skip
def zqg : IC := .region [⟨(some 4), .mov (.t 6), none⟩] none
def zmb : IC := .block 1 (.seq (.region [⟨(some 7), .mov (.t 4), none⟩,
  ⟨(some 8), .load none (.t 1), none⟩,
  ⟨(some 9), .eqb true (.t 7) (.t 8), none⟩] none)
 (.cond (.t 9) (.seq (.region [⟨none, .store 1 (.t 3) (.c (.bool false)), none⟩] none)
 (.ret))
 (.skip)))
-- pneumatic/boolexp.every$1
noncomputable def ic119 : IC := .seq (.region [⟨(some 3), .alloc [.bool false], none⟩] none)
 (.seq (.seq (.region [⟨(some 5), .mov (.t 0), none⟩] none)
 (.block 0 (.rangeFunc (.t 5) [6] zoz zp2 zqg zmb)))
 (.seq (.region [⟨none, .store 1 (.t 3) (.c (.bool true)), none⟩] none)
 (.ret)))
theorem fn119 : env0.fn 119 = some ⟨10, ic119, [.cell 3 none]⟩ := by kernel_rfl
def stepE (b : Bool) (_ : Unit) (r : Bool) : Unit ⊕ Unit := if r = b then .inl () else .inr ()
theorem foldE (b : Bool) : ∀ l : List Bool, zk5 (stepE b) l () = if l.all (· == b) = true then .inl () else .inr ()
 | [] => rfl
 | r :: l => by
  rw [zk5, List.all_cons]
  unfold stepE
  cases r <;> cases b <;> first | exact foldE _ l | rfl
structure I115 (ltm : List (Nat × AV)) (_ : Unit) (H : HS) : Prop where
 nx : 3 ≤ H.next
 h2 : Am.look 2 H.heap = some (2, .loop .ready none 10 (zea ltm) [6] zoz zp2 (1, 1))
 h1 : Am.look 1 H.heap = some (1, .deferred)
 h0 : Am.look 0 H.heap = some (0, .cells [.bool false])
structure J115 (_ : Unit) (H : HS) : Prop where
 nx : 3 ≤ H.next
 h2 : ∃ tm, Am.look 2 H.heap = some (2, .loop .done (some .ret) 10 tm [6] zoz zp2 (1, 1))
 h1 : Am.look 1 H.heap = some (1, .deferred)
 h0 : Am.look 0 H.heap = some (0, .cells [.bool false])
theorem local115 (ltm : List (Nat × AV)) : Local (fun i => i < 3) (I115 ltm) :=
 ⟨fun s H h i hi => Nat.lt_of_lt_of_le hi h.nx, fun s H H' h hn hl =>
  ⟨Nat.le_trans h.nx hn, (hl 2 (by decide)).trans h.h2, (hl 1 (by decide)).trans h.h1, (hl 0 (by decide)).trans h.h0⟩⟩
set_option maxHeartbeats 2000000 in
theorem yield115 {w0 : World} {N0 : Nat} (ltm : List (Nat × AV)) (b : Bool) (g1 : zc3 (.t 1) ltm = some (.vptr [.bool b])) (g3 : zc3 (.t 3) ltm = some (.mptr 0 0 0)) (ha : Com Try.prog zoz zqg) (hb : Com Try.prog zp2 zmb) (s : Unit) (r : Bool) (H : HS) (h : I115 ltm s H) :
  CT Try.prog w0 N0 (.yield 2 2) [.bool r] H (Left (fun i => i < 3) (I115 ltm) J115 H (stepE b s r)) := by
 obtain ⟨nx, h2, h1, h0⟩ := h
 refine znt (l0 := (6, .bool r) :: ltm) h2 ha hb rfl (by decide) rfl ?_
 unfold zqg
 repeat (first | refine za0 rfl ?_ | refine zab ?_ | refine zad rfl ?_)
 refine zbe ⟨rfl, _, rfl, ?_⟩
 unfold zmb
 repeat (first | refine zai ?_ | refine za0 rfl ?_ | refine zaj ?_ | refine zad rfl ?_)
 refine zam g1 rfl ?_
 cases r <;> cases b
 all_goals repeat (first | refine zai ?_ | refine za0 rfl ?_ | refine zab ?_ | refine zac ?_ | refine zbg ?_ | refine zat ?_ | refine zbl rfl ?_ | refine zbo rfl ?_ | refine zb8 rfl rfl rfl ?_ | refine zb7 rfl rfl rfl ?_)
 all_goals first
  | (
    refine zak (sp := 0) (cs := [.bool false]) g3 rfl rfl rfl (by rw [za3, if_neg (by decide)]; exact h0) rfl rfl ?_
    repeat (first | refine zab ?_ | refine zac ?_ | refine zaz ?_ | refine za7 ?_)
    refine zbe ⟨10, zea ltm, [6], zoz, zp2, (1, 1), ?_, some .ret, rfl, ⟨Nat.le_refl _, Nat.le_refl _, fun i hi hj => ?_⟩, ?_⟩
    ·dsimp only [st]
     rw [za3, if_neg (by decide), za3, if_pos rfl]
    ·dsimp only [st]
     rw [za3, if_neg (by omega), za3, if_neg (by omega), za3, if_neg (by omega)]
    ·refine ⟨rfl, nx, ⟨zea ltm, ?_⟩, ?_, ?_⟩
     ·dsimp only [st]
      rw [za3, if_pos rfl]; rfl
     ·dsimp only [st]
      rw [za3, if_neg (by decide), za3, if_neg (by decide), za3, if_neg (by decide)]; exact h1
     ·dsimp only [st]
      rw [za3, if_neg (by decide), za3, if_pos rfl]; rfl)
  | (
    refine zbe ⟨10, zea ltm, [6], zoz, zp2, (1, 1), ?_, none, rfl, ⟨Nat.le_refl _, Nat.le_refl _, fun i hi hj => ?_⟩, ?_⟩
    ·dsimp only [st]
     rw [za3, if_pos rfl]
    ·dsimp only [st]
     rw [za3, if_neg (by omega), za3, if_neg (by omega)]
    ·refine ⟨rfl, nx, ?_, ?_, ?_⟩
     ·dsimp only [st]
      rw [za3, if_pos rfl]; rfl
     ·dsimp only [st]
      rw [za3, if_neg (by decide), za3, if_neg (by decide)]; exact h1
     ·dsimp only [st]
      rw [za3, if_neg (by decide), za3, if_neg (by decide)]; exact h0)
set_option maxHeartbeats 2000000 in
theorem zk3 (b : Bool) (v : List Bool) (op ix : Int) (args : List Ex) (hlen : args.length ≤ 256) (hev : ∀ y ∈ args, PF Try.prog 53 [.agg (cX y), vsB v] (.bool (zc4 v y))) :
  PF Try.prog 119 [.fn 81 [] [.vptr (cX (.nd op ix args)), .vptr [vsB v]], .vptr [.bool b]] (.bool ((args.map (zc4 v)).all (· == b))) := by
 refine zbx env0_ok fn119 [(0, .fn 81 [] [.vptr (cX (.nd op ix args)), .vptr [vsB v]]), (1, .vptr [.bool b])] (by show 2 ≤ 10; decide) rfl fun w0 N0 => ?_
 unfold ic119
 repeat (first | refine zai ?_ | refine za0 rfl ?_ | refine zab ?_ | refine zac ?_ | refine zaj ?_ | refine zad rfl ?_ | refine zau ?_)
 refine znb (.inl rfl) rfl fun ha hb => (seq110 v op ix args hlen hev (local115 _) (fun s r H h => yield115 _ b rfl rfl ha hb s r H h) ⟨_, _, _⟩ () ⟨Nat.le_refl _, rfl, rfl, rfl⟩).mono fun v2 H2 hF => ?_
 obtain ⟨hK, hF⟩ := hF
 rw [foldE] at hF
 cases hall : (args.map (zc4 v)).all (· == b) with
 | true =>
  rw [hall, if_pos rfl] at hF
  obtain ⟨nx, h2, h1, h0⟩ := hF
  refine ⟨_, _, .normal, _, _, _, _, _, _, h2, by simp, rfl, fun z hz => ?_, ?_⟩
  ·obtain rfl := List.mem_singleton.1 hz
   rw [zbf, if_neg (by decide)]; exact h1
  ·repeat (first | refine zai ?_ | refine za0 rfl ?_ | refine zac ?_ | refine zbg ?_)
   refine zak (sp := 0) (cs := [.bool false]) rfl rfl rfl rfl (by rw [zbf, if_neg (by decide)]; exact h0) rfl rfl ?_
   repeat (first | refine zab ?_ | refine zac ?_ | refine zaz ?_)
   refine zbe ⟨.inr rfl, .bool true, zg8 (zec 3) (zdh (sp := 0) (cs := [.bool true]) ?_ ?_), rfl⟩
   ·show Am.look 0 (zch 1 (zcb 0 _ (zch 2 H2.heap))) = _
    rw [zbf, if_neg (by decide), za3, if_pos rfl]; rfl
   ·show 0 < H2.next; omega
 | false =>
  rw [hall, if_neg (by simp)] at hF
  obtain ⟨nx, ⟨tm, h2⟩, h1, h0⟩ := hF
  refine ⟨_, _, .ret, _, _, _, _, _, _, h2, by simp, rfl, fun z hz => ?_, ?_⟩
  ·obtain rfl := List.mem_singleton.1 hz
   rw [zbf, if_neg (by decide)]; exact h1
  ·repeat (first | refine za2 ?_ | refine za7 ?_)
   refine zbe ⟨.inr rfl, .bool false, zg8 (zec 3) (zdh (sp := 0) (cs := [.bool false]) ?_ ?_), rfl⟩
   ·show Am.look 0 (zch 1 (zch 2 H2.heap)) = _
    rw [zbf, if_neg (by decide), zbf, if_neg (by decide)]; exact h0
   ·show 0 < H2.next; omega
-- pneumatic/boolexp.shapes$1
def ic103 : IC := .seq (.region [⟨(some 2), .mov (.c (.bool false)), none⟩] none)
 (.seq (.region [⟨(some 3), .call (.c (.fn 102 [] [])) [(.c (.bool false))], none⟩,
  ⟨(some 4), .mov (.t 0), none⟩,
  ⟨(some 5), .call (.t 3) [(.t 4)], none⟩,
  ⟨(some 6), .un .not (.t 5), none⟩,
  ⟨(some 2), .mov (.t 6), none⟩] none)
 (.ret))
theorem fn103 : env0.fn 103 = some ⟨7, ic103, [.t 2]⟩ := by kernel_rfl
theorem some112 (v : List Bool) (op ix : Int) (args : List Ex) (hlen : args.length ≤ 256) (hev : ∀ y ∈ args, PF Try.prog 53 [.agg (cX y), vsB v] (.bool (zc4 v y))) :
  PF Try.prog 103 [.fn 81 [] [.vptr (cX (.nd op ix args)), .vptr [vsB v]]] (.bool (!(args.map (zc4 v)).all (· == false))) := by
 refine zbx env0_ok fn103 [(0, .fn 81 [] [.vptr (cX (.nd op ix args)), .vptr [vsB v]])] (by show 1 ≤ 7; decide) rfl fun w0 N0 => ?_
 unfold ic103
 repeat (first | refine zai ?_ | refine za0 rfl ?_ | refine zab ?_ | refine zac ?_ | refine zad rfl ?_)
 refine zbn rfl rfl every111 (fun h => Bool.noConfusion (show false = true from h)) ?_
 repeat (first | refine zad rfl ?_)
 refine zgu rfl rfl rfl (zk3 false v op ix args hlen hev) (fun h => Bool.noConfusion (show false = true from h)) ?_
 repeat (first | refine zab ?_ | refine zac ?_ | refine zaz ?_ | refine zad rfl ?_ | refine zc2 rfl rfl ?_)
 exact zbe ⟨.inr rfl, _, rfl, rfl⟩
end Go.Proofs.Ytmnkjofaodbokaa
namespace Go.Proofs.Ytmnkjofaodbokaa
open Go Go.Am
-- pneumatic/boolexp.eval
def ic53 : IC := .seq (.region [⟨(some 2), .box (.t 0), none⟩,
  ⟨(some 3), .box (.t 1), none⟩,
  ⟨(some 4), .mov (.c (.bool false)), none⟩] none)
 (.seq (.seq (.region [⟨(some 5), .faddr 0 (.t 2), none⟩,
  ⟨(some 6), .load none (.t 5), none⟩] none)
 (.block 0 (.seq (.region [⟨(some 8), .bin .eql (.t 6) (.c (.int .i64 0)), none⟩,
  ⟨(some 7), .mov (.t 8), none⟩] none)
 (.cond (.t 7) (.seq (.region [⟨(some 9), .faddr 1 (.t 2), none⟩,
  ⟨(some 10), .load none (.t 9), none⟩,
  ⟨(some 11), .bin .eql (.t 10) (.c (.int .i64 1)), none⟩,
  ⟨(some 4), .mov (.t 11), none⟩] none)
 (.ret))
 (.seq (.region [⟨(some 13), .bin .eql (.t 6) (.c (.int .i64 1)), none⟩,
  ⟨(some 12), .mov (.t 13), none⟩] none)
 (.cond (.t 12) (.seq (.region [⟨(some 14), .load none (.t 3), none⟩,
  ⟨(some 15), .faddr 1 (.t 2), none⟩,
  ⟨(some 16), .load none (.t 15), none⟩,
  ⟨(some 17), .idxs 1 (.t 14) (.t 16), none⟩,
  ⟨(some 18), .load none (.t 17), none⟩,
  ⟨(some 4), .mov (.t 18), none⟩] none)
 (.ret))
 (.skip)))))))
 (.seq (.region [⟨(some 19), .call (.c (.fn 80 [] [])) [], none⟩,
  ⟨(some 20), .faddr 0 (.t 2), none⟩,
  ⟨(some 21), .load none (.t 20), none⟩,
  ⟨(some 22), .idxagg 5 3 true (.t 19) (.t 21), none⟩,
  ⟨(some 23), .field 2 none (.t 22), none⟩,
  ⟨(some 24), .mkfn 81 [] [(.t 2), (.t 3)], none⟩,
  ⟨(some 25), .call (.t 23) [(.t 24)], none⟩,
  ⟨(some 4), .mov (.t 25), none⟩] (some [[], [], [1], [0, 2], [3], [], [4, 5, 0], [6, 6, 0, 1, 2, 3, 4, 5, 6]]))
 (.ret)))
theorem fn53 : env0.fn 53 = some ⟨26, ic53, [.t 4]⟩ := by kernel_rfl
theorem zov (a : Bool) : ([a].all (· == false)) = !a := by cases a <;> rfl
theorem all_true (l : List Bool) : l.all (· == true) = l.all id := by
 induction l with
 | nil => rfl
 | cons a l ih => rw [List.all_cons, List.all_cons, ih]; cases a <;> rfl
theorem zqb (l : List Bool) : (!l.all (· == false)) = l.any id := by
 induction l with
 | nil => rfl
 | cons a l ih => rw [List.all_cons, List.any_cons, ← ih]; cases a <;> simp
set_option maxHeartbeats 4000000 in
theorem zr6 (v : List Bool) : ∀ (q : Nat) (x : Ex), SizeOf.sizeOf x ≤ q → nds v.length x = 0 → PF Try.prog 53 [.agg (cX x), vsB v] (.bool (zc4 v x)) := by
 intro q
 induction q with
 | zero => intro x hq; cases x; simp at hq
 | succ q ih =>
 intro x hq hs
 obtain ⟨op, ix, args⟩ := x
 obtain ⟨hn, hch⟩ := zo8 hs
 obtain ⟨o0, o5, kl, km, i0, im⟩ := zob hn
 have hlen : args.length ≤ 256 := by
  unfold zca at km
  (repeat' split at km) <;> omega
 have hev : ∀ y ∈ args, PF Try.prog 53 [.agg (cX y), vsB v] (.bool (zc4 v y)) := fun y hy => ih y (by have := zgd (op := op) (ix := ix) hy; omega) (hch y hy)
 have hop : op = 0 ∨ op = 1 ∨ op = 2 ∨ op = 3 ∨ op = 4 := by omega
 have hd : zc4 v (.nd op ix args) = if op = 0 then ix == 1 else if op = 1 then v.getD ix.toNat false else if op = 2 then !(zev v args).headD false else if op = 3 then (zev v args).all id else (zev v args).any id := by rw [zc4]
 rw [hd]
 refine zbx env0_ok fn53 [(0, .agg (cX (.nd op ix args))), (1, vsB v)] (by show 2 ≤ 26; decide) rfl fun w0 N0 => ?_
 unfold ic53
 rcases hop with rfl | rfl | rfl | rfl | rfl
 ·rw [if_pos rfl]
  repeat (first | refine zai ?_ | refine za0 rfl ?_ | refine zab ?_ | refine zac ?_ | refine zaj ?_ | refine zbl rfl ?_ | refine zad rfl ?_ | refine zam rfl rfl ?_ | refine za5 rfl ?_ | refine zbd rfl rfl ?_ | refine zb2 rfl rfl rfl ?_)
  refine zbm rfl rfl rfl (fun h1 => ?_) fun h1 => ?_
  ·rw [h1]
   repeat (first | refine zab ?_ | refine zac ?_ | refine zaz ?_ | refine za2 ?_ | refine za7 ?_ | refine zad rfl ?_)
   exact zbe ⟨.inr rfl, _, rfl, rfl⟩
  ·rw [h1]
   repeat (first | refine zab ?_ | refine zac ?_ | refine zaz ?_ | refine za2 ?_ | refine za7 ?_ | refine zad rfl ?_)
   exact zbe ⟨.inr rfl, _, rfl, rfl⟩
 ·rw [if_neg (by decide), if_pos rfl]
  repeat (first | refine zai ?_ | refine za0 rfl ?_ | refine zab ?_ | refine zac ?_ | refine zaj ?_ | refine zbl rfl ?_ | refine zbo rfl ?_ | refine zad rfl ?_ | refine zam rfl rfl ?_ | refine za5 rfl ?_ | refine zbd rfl rfl ?_ | refine zb2 rfl rfl rfl ?_ | refine zb1 rfl rfl rfl ?_)
  have hi : ix.toNat < v.length := by
   simp [zcd] at im
   omega
  refine zb3 rfl rfl i0 (vs_get v _ hi) rfl ?_
  repeat (first | refine zab ?_ | refine zac ?_ | refine zaz ?_ | refine za2 ?_ | refine za7 ?_ | refine zad rfl ?_ | refine zam rfl rfl ?_)
  exact zbe ⟨.inr rfl, _, rfl, rfl⟩
 ·rw [if_neg (by decide), if_neg (by decide), if_pos rfl]
  have h1 : args.length = 1 := by simp [zbt, zca] at kl km; omega
  have heq : (args.map (zc4 v)).all (· == false) = !(zev v args).headD false := by
   obtain ⟨y, rfl⟩ := List.length_eq_one_iff.1 h1
   rw [zev, zev, List.map_cons, List.map_nil, zov]
   rfl
  repeat (first | refine zai ?_ | refine za0 rfl ?_ | refine zab ?_ | refine zac ?_ | refine zbg ?_ | refine zaj ?_ | refine zat ?_ | refine zbo rfl ?_ | refine zad rfl ?_ | refine zam rfl rfl ?_ | refine za5 rfl ?_ | refine zbd rfl rfl ?_ | refine zb1 rfl rfl rfl ?_)
  refine zf5 env0_ok [(80, [], zer), (119, [.fn 81 [] [.vptr (cX (.nd 2 ix args)), .vptr [vsB v]], .vptr [.bool false]], .bool ((args.map (zc4 v)).all (· == false)))] (fun x hx => by rcases List.mem_cons.1 hx with rfl | hx; exact zgb; obtain rfl := List.mem_singleton.1 hx; exact zk3 false v 2 ix args hlen hev) (fun f => Nat.beq f 80) rfl rfl rfl ?_
  refine zbn rfl rfl zcc (fun h => Bool.noConfusion (show false = true from h)) ?_
  unfold zer
  repeat (first | refine zam rfl rfl ?_ | refine za5 rfl ?_ | refine zax rfl rfl ?_ | refine za9 rfl rfl rfl rfl ?_ | refine zb6 rfl rfl ?_)
  refine zgu rfl rfl rfl (zgp (by decide) zcc) (fun _ => rfl) ?_
  repeat (first | refine zab ?_ | refine zac ?_ | refine zaz ?_ | refine zad rfl ?_)
  refine zbe ⟨.inr rfl, _, rfl, ?_⟩
  show AV.bool _ = AV.bool _
  exact congrArg AV.bool heq
 ·rw [if_neg (by decide), if_neg (by decide), if_neg (by decide), if_pos rfl, zg1]
  have heq : (args.map (zc4 v)).all (· == true) = (args.map (zc4 v)).all id := all_true _
  repeat (first | refine zai ?_ | refine za0 rfl ?_ | refine zab ?_ | refine zac ?_ | refine zbg ?_ | refine zaj ?_ | refine zat ?_ | refine zbo rfl ?_ | refine zad rfl ?_ | refine zam rfl rfl ?_ | refine za5 rfl ?_ | refine zbd rfl rfl ?_ | refine zb1 rfl rfl rfl ?_)
  refine zf5 env0_ok [(80, [], zer), (119, [.fn 81 [] [.vptr (cX (.nd 3 ix args)), .vptr [vsB v]], .vptr [.bool true]], .bool ((args.map (zc4 v)).all (· == true)))] (fun x hx => by rcases List.mem_cons.1 hx with rfl | hx; exact zgb; obtain rfl := List.mem_singleton.1 hx; exact zk3 true v 3 ix args hlen hev) (fun f => Nat.beq f 80) rfl rfl rfl ?_
  refine zbn rfl rfl zcc (fun h => Bool.noConfusion (show false = true from h)) ?_
  unfold zer
  repeat (first | refine zam rfl rfl ?_ | refine za5 rfl ?_ | refine zax rfl rfl ?_ | refine za9 rfl rfl rfl rfl ?_ | refine zb6 rfl rfl ?_)
  refine zgu rfl rfl rfl (zgp (by decide) zcc) (fun _ => rfl) ?_
  repeat (first | refine zab ?_ | refine zac ?_ | refine zaz ?_ | refine zad rfl ?_)
  refine zbe ⟨.inr rfl, _, rfl, ?_⟩
  show AV.bool _ = AV.bool _
  exact congrArg AV.bool heq
 ·rw [if_neg (by decide), if_neg (by decide), if_neg (by decide), if_neg (by decide), zg1]
  have heq : (!(args.map (zc4 v)).all (· == false)) = (args.map (zc4 v)).any id := zqb _
  repeat (first | refine zai ?_ | refine za0 rfl ?_ | refine zab ?_ | refine zac ?_ | refine zbg ?_ | refine zaj ?_ | refine zat ?_ | refine zbo rfl ?_ | refine zad rfl ?_ | refine zam rfl rfl ?_ | refine za5 rfl ?_ | refine zbd rfl rfl ?_ | refine zb1 rfl rfl rfl ?_)
  refine zf5 env0_ok [(80, [], zer), (103, [.fn 81 [] [.vptr (cX (.nd 4 ix args)), .vptr [vsB v]]], .bool (!(args.map (zc4 v)).all (· == false)))] (fun x hx => by rcases List.mem_cons.1 hx with rfl | hx; exact zgb; obtain rfl := List.mem_singleton.1 hx; exact some112 v 4 ix args hlen hev) (fun f => Nat.beq f 80) rfl rfl rfl ?_
  refine zbn rfl rfl zcc (fun h => Bool.noConfusion (show false = true from h)) ?_
  unfold zer
  repeat (first | refine zam rfl rfl ?_ | refine za5 rfl ?_ | refine zax rfl rfl ?_ | refine za9 rfl rfl rfl rfl ?_ | refine zb6 rfl rfl ?_)
  refine zgu rfl rfl rfl (zgp (by decide) zcc) (fun _ => rfl) ?_
  repeat (first | refine zab ?_ | refine zac ?_ | refine zaz ?_ | refine zad rfl ?_)
  refine zbe ⟨.inr rfl, _, rfl, ?_⟩
  show AV.bool _ = AV.bool _
  exact congrArg AV.bool heq
-- pneumatic/boolexp.Eval
def ic18 : IC := .seq (.region [⟨(some 2), .box (.t 0), none⟩,
  ⟨(some 4), .mov (.c (.bool false)), none⟩,
  ⟨(some 5), .mov (.c (.int .i64 0)), none⟩] none)
 (.seq (.seq (.region [⟨(some 7), .load (some 3) (.t 2), none⟩,
  ⟨(some 8), .mov (.t 1), none⟩,
  ⟨(some 9), .len false (.t 8), none⟩,
  ⟨(some 10), .call (.c (.fn 32 [] [])) [(.t 7), (.t 9)], none⟩,
  ⟨(some 6), .mov (.t 10), none⟩] none)
 (.seq (.region [⟨(some 11), .mov (.t 6), none⟩,
  ⟨(some 12), .bin .neq (.t 11) (.c (.int .i64 0)), none⟩] none)
 (.cond (.t 12) (.seq (.region [⟨(some 13), .mov (.t 6), none⟩,
  ⟨(some 4), .mov (.c (.bool false)), none⟩,
  ⟨(some 5), .mov (.t 13), none⟩] none)
 (.ret))
 (.skip))))
 (.seq (.region [⟨(some 14), .load (some 3) (.t 2), none⟩,
  ⟨(some 15), .mov (.t 1), none⟩,
  ⟨(some 16), .call (.c (.fn 53 [] [])) [(.t 14), (.t 15)], none⟩,
  ⟨(some 4), .mov (.t 16), none⟩,
  ⟨(some 5), .mov (.c (.int .i64 0)), none⟩] none)
 (.ret)))
theorem fn18 : env0.fn 18 = some ⟨17, ic18, [.t 4, .t 5]⟩ := by kernel_rfl
def zp8 (x : Ex) (v : List Bool) : AV := if zdd x v.length = 0 then .tup [.bool (zc4 v x), .int .i64 0] else .tup [.bool false, .int .i64 (zdd x v.length)]
theorem zo9 {x : Ex} {n : Int} (h : zdd x n = 0) : nds n x = 0 := by
 unfold zdd at h
 split at h
 ·exact absurd h (by decide)
 ·split at h
  ·exact h
  ·exact absurd h (by decide)
theorem eval81 (x : Ex) (hs : Slim x) (v : List Bool) : PF Try.prog 18 [.agg (cX x), vsB v] (zp8 x v) := by
 have h59 := zme x hs v.length
 rw [zf6] at h59
 have h100 : zdd x v.length = 0 → PF Try.prog 53 [.agg (cX x), vsB v] (.bool (zc4 v x)) := fun h => zr6 v _ x (Nat.le_refl _) (zo9 h)
 have hl : ((v.map fun b => ([.bool b] : List AV)).length : Int) = v.length := by rw [List.length_map]
 obtain ⟨op, ix, args⟩ := x
 refine zbx env0_ok fn18 [(0, .agg (cX (.nd op ix args))), (1, vsB v)] (by show 2 ≤ 17; decide) rfl fun w0 N0 => ?_
 unfold ic18 zp8
 repeat (first | refine zai ?_ | refine za0 rfl ?_ | refine zab ?_ | refine zac ?_ | refine zad rfl ?_ | refine zar rfl rfl rfl rfl ?_ | refine zbh rfl rfl ?_ | refine zbd rfl rfl ?_)
 refine zbn rfl (by rw [show (((fun n => AV.int .i64 n) (v.map fun b => ([.bool b] : List AV)).length) : AV) = .int .i64 v.length from congrArg _ hl]; rfl) h59 (fun h => Bool.noConfusion (show false = true from h)) ?_
 repeat (first | refine zai ?_ | refine za0 rfl ?_ | refine zab ?_ | refine zac ?_ | refine zad rfl ?_)
 refine zbm rfl rfl rfl (fun h1 => ?_) fun h1 => ?_
 ·have h1 := bne_iff_ne.1 h1
  rw [if_neg h1]
  repeat (first | refine zai ?_ | refine za0 rfl ?_ | refine zab ?_ | refine zac ?_ | refine zbl rfl ?_ | refine zaz ?_ | refine za2 ?_ | refine zad rfl ?_)
  exact zbe ⟨.inr rfl, _, rfl, rfl⟩
 ·have h1 : zdd (.nd op ix args) v.length = 0 := by simpa using h1
  rw [if_pos h1]
  repeat (first | refine zai ?_ | refine za0 rfl ?_ | refine zab ?_ | refine zac ?_ | refine zat ?_ | refine zbo rfl ?_ | refine zad rfl ?_ | refine zar rfl rfl rfl rfl ?_)
  refine zbn rfl rfl (h100 h1) (fun h => Bool.noConfusion (show false = true from h)) ?_
  repeat (first | refine zab ?_ | refine zac ?_ | refine zaz ?_ | refine zad rfl ?_)
  exact zbe ⟨.inr rfl, _, rfl, rfl⟩
end Go.Proofs.Ytmnkjofaodbokaa
namespace Go.Proofs.Ytmnkjofaodbokaa
open Go Go.Am
theorem zi7 : ∀ l : List Bool, hasM.hasML (l.map AV.bool) = false
 | [] => rfl
 | b :: l => by
  have := zi7 l
  simpa [hasM.hasML, hasM] using this
end Go.Proofs.Ytmnkjofaodbokaa
namespace Go.Proofs.Ytmnkjofaodbokaa
open Go Go.Am
def wkV (i : Int) : Ex := .nd 1 i []
def wkA : Ex := .nd 3 0 [wkV 0, .nd 2 0 [.nd 4 0 [wkV 1, wkV 2]]]
def wkB : Ex := .nd 3 0 [wkV 0, .nd 3 0 [wkV 1, .nd 0 1 []], wkV 0]
def wkC : Ex := .nd 3 0 [wkV 0, wkV 1]
def wkD : Ex := .nd 4 0 [wkV 0, .nd 2 0 [wkV 0]]
theorem zfg (i : Int) : Slim (wkV i) := .nd (by decide) (fun _ h => by cases h)
theorem slimA : Slim wkA := .nd (by decide) fun y hy => by
 simp only [List.mem_cons, List.not_mem_nil, or_false] at hy
 rcases hy with rfl | rfl
 ·exact zfg 0
 ·refine .nd (by decide) fun y hy => ?_
  obtain rfl := List.mem_singleton.1 hy
  refine .nd (by decide) fun y hy => ?_
  simp only [List.mem_cons, List.not_mem_nil, or_false] at hy
  rcases hy with rfl | rfl
  ·exact zfg 1
  ·exact zfg 2
theorem slimB' : Slim wkB := .nd (by decide) fun y hy => by
 simp only [List.mem_cons, List.not_mem_nil, or_false] at hy
 rcases hy with rfl | rfl | rfl
 ·exact zfg 0
 ·refine .nd (by decide) fun y hy => ?_
  simp only [List.mem_cons, List.not_mem_nil, or_false] at hy
  rcases hy with rfl | rfl
  ·exact zfg 1
  ·exact .nd (by decide) (fun _ h => by cases h)
 ·exact zfg 0
theorem slimC : Slim wkC := .nd (by decide) fun y hy => by
 simp only [List.mem_cons, List.not_mem_nil, or_false] at hy
 rcases hy with rfl | rfl
 ·exact zfg 0
 ·exact zfg 1
theorem slimD : Slim wkD := .nd (by decide) fun y hy => by
 simp only [List.mem_cons, List.not_mem_nil, or_false] at hy
 rcases hy with rfl | rfl
 ·exact zfg 0
 ·refine .nd (by decide) fun y hy => ?_
  obtain rfl := List.mem_singleton.1 hy
  exact zfg 0
def tabC : Tab := [(32, [
 ([.agg [.int .i64 3, .int .i64 0, .vs [[.int .i64 1, .int .i64 0, .vs []], [.int .i64 2, .int .i64 0, .vs [[.int .i64 4, .int .i64 0, .vs [[.int .i64 1, .int .i64 1, .vs []], [.int .i64 1, .int .i64 2, .vs []]]]]]]], .int .i64 3], .int .i64 0),
 ([.agg [.int .i64 3, .int .i64 0, .vs [[.int .i64 1, .int .i64 0, .vs []], [.int .i64 3, .int .i64 0, .vs [[.int .i64 1, .int .i64 1, .vs []], [.int .i64 0, .int .i64 1, .vs []]]], [.int .i64 1, .int .i64 0, .vs []]]], .int .i64 3], .int .i64 0),
 ([.agg [.int .i64 3, .int .i64 0, .vs [[.int .i64 1, .int .i64 0, .vs []], [.int .i64 1, .int .i64 1, .vs []]]], .int .i64 3], .int .i64 0),
 ([.agg [.int .i64 4, .int .i64 0, .vs [[.int .i64 1, .int .i64 0, .vs []], [.int .i64 2, .int .i64 0, .vs [[.int .i64 1, .int .i64 0, .vs []]]]]], .int .i64 3], .int .i64 0)])]
theorem tabC_ok : TabOk Try.prog tabC := by
 intro x hx y hy
 unfold tabC at hx
 obtain rfl := List.mem_singleton.1 hx
 simp only [List.mem_cons, List.not_mem_nil, or_false] at hy
 have key : ∀ e : Ex, Slim e → zhu e 3 = 0 → PF Try.prog 32 [.agg (cX e), .int .i64 3] (.int .i64 0) := fun e hs h => by
  have := zme e hs 3
  rwa [h] at this
 rcases hy with rfl | rfl | rfl | rfl
 ·exact key wkA slimA (by rw [zf6]; kernel_rfl)
 ·exact key wkB slimB' (by rw [zf6]; kernel_rfl)
 ·exact key wkC slimC (by rw [zf6]; kernel_rfl)
 ·exact key wkD slimD (by rw [zf6]; kernel_rfl)
def tabA : Tab := [
 (13, [
  ([], .bool true)])]
theorem tabA_ok : TabOk Try.prog tabA := TabOk.of_run (env0_ok.tab tabC_ok (pure := [])) (n := 80) (by kernel_rfl)
theorem zm9 : PF Try.prog 13 [] (.bool true) := tabA_ok _ (List.mem_cons_self ..) _ (List.mem_cons_self ..)
end Go.Proofs.Ytmnkjofaodbokaa
namespace Go.Proofs.Ytmnkjofaodbokaa
open Go Go.Am
theorem Keep.mono {M M' : Nat → Prop} {H H' : HS} (h : Keep M H H') (hm : ∀ i, M i → M' i) : Keep M' H H' :=
 ⟨h.next, h.clk, fun i hi => h.look i fun h => hi (hm i h)⟩
theorem pair_eq {a b c d : AV} (h1 : a = c) (h2 : b = d) : [a, b] = [c, d] := by rw [h1, h2]
end Go.Proofs.Ytmnkjofaodbokaa
namespace Go.Proofs.Ytmnkjofaodbokaa
open Go Go.Am
-- pneumatic/pneumaticref05.Few
def ic52 : IC := .seq (.region [⟨(some 1), .box (.t 0), none⟩,
  ⟨(some 2), .mov (.c (.bool false)), none⟩] none)
 (.seq (.region [⟨(some 4), .load (some 3) (.t 1), none⟩,
  ⟨(some 5), .call (.c (.fn 67 [] [])) [(.t 4), (.c (.int .i64 512))], none⟩,
  ⟨(some 3), .mov (.t 5), none⟩] none)
 (.seq (.region [⟨(some 6), .mov (.t 3), none⟩,
  ⟨(some 7), .bin .leq (.t 6) (.c (.int .i64 40)), none⟩,
  ⟨(some 8), .mov (.t 7), none⟩,
  ⟨(some 9), .mov (.t 3), some (8, false)⟩,
  ⟨(some 10), .bin .gtr (.t 9) (.c (.int .i64 256)), some (8, false)⟩,
  ⟨(some 11), .mov (.t 10), some (8, false)⟩,
  ⟨(some 12), .mov (.t 3), some (11, true)⟩,
  ⟨(some 13), .bin .leq (.t 12) (.c (.int .i64 512)), some (11, true)⟩,
  ⟨(some 14), .pick (.t 11) (.t 13) (.c (.bool false)), some (8, false)⟩,
  ⟨(some 15), .mov (.t 14), some (8, false)⟩,
  ⟨(some 16), .load (some 3) (.t 1), some (15, true)⟩,
  ⟨(some 17), .call (.c (.fn 78 [] [])) [(.t 16), (.c (.int .i64 40))], some (15, true)⟩,
  ⟨(some 18), .pick (.t 15) (.t 17) (.c (.bool false)), some (8, false)⟩,
  ⟨(some 19), .pick (.t 8) (.c (.bool true)) (.t 18), none⟩,
  ⟨(some 2), .mov (.t 19), none⟩] none)
 (.ret)))
theorem fn52 : env0.fn 52 = some ⟨20, ic52, [.t 2]⟩ := by kernel_rfl
-- pneumatic/pneumaticlaw05.few$1
def ic51 : IC := .seq (.region [⟨(some 1), .box (.t 0), none⟩,
  ⟨(some 2), .mov (.c (.bool false)), none⟩] none)
 (.seq (.region [⟨(some 3), .load (some 3) (.t 1), none⟩,
  ⟨(some 4), .call (.c (.fn 52 [] [])) [(.t 3)], none⟩,
  ⟨(some 5), .un .not (.t 4), none⟩,
  ⟨(some 2), .mov (.t 5), none⟩] none)
 (.ret))
theorem fn51 : env0.fn 51 = some ⟨6, ic51, [.t 2]⟩ := by kernel_rfl
def b79_0 : IC := .seq (.region [⟨(some 9), .bin .lss (.t 8) (.t 7), none⟩] none)
 (.seq (.cond (.t 9) (.skip)
 (.exit 0))
 (.seq (.block 1 (.seq (.region [⟨(some 10), .mov (.t 8), none⟩,
  ⟨(some 5), .mov (.t 10), none⟩] none)
 (.seq (.region [⟨(some 11), .mov (.t 1), none⟩,
  ⟨(some 12), .mov (.t 0), none⟩,
  ⟨(some 13), .mov (.t 5), none⟩,
  ⟨(some 14), .idxs 3 (.t 12) (.t 13), none⟩,
  ⟨(some 15), .load (some 3) (.t 14), none⟩,
  ⟨(some 16), .call (.t 11) [(.t 15)], none⟩] none)
 (.cond (.t 16) (.seq (.region [⟨(some 17), .mov (.t 5), none⟩,
  ⟨(some 4), .mov (.t 17), none⟩] none)
 (.ret))
 (.skip)))))
 (.region [⟨(some 18), .bin .add (.t 8) (.c (.int .i64 1)), none⟩,
  ⟨(some 8), .mov (.t 18), none⟩] none)))
-- slices.IndexFunc[[]pneumatic/api.Expr,pneumatic/api.Expr]
def ic79 : IC := .seq (.region [⟨(some 4), .mov (.c (.int .i64 0)), none⟩] none)
 (.seq (.seq (.region [⟨(some 6), .mov (.t 0), none⟩,
  ⟨(some 7), .len false (.t 6), none⟩,
  ⟨(some 8), .mov (.c (.int .i64 0)), none⟩] none)
 (.block 0 (.loop b79_0)))
 (.seq (.region [⟨(some 4), .mov (.c (.int .i64 (-1))), none⟩] none)
 (.ret)))
theorem fn79 : env0.fn 79 = some ⟨19, ic79, [.t 4]⟩ := by kernel_rfl
-- slices.ContainsFunc[[]pneumatic/api.Expr,pneumatic/api.Expr]
def ic50 : IC := .seq (.region [⟨(some 4), .mov (.c (.bool false)), none⟩] none)
 (.seq (.region [⟨(some 5), .mov (.t 0), none⟩,
  ⟨(some 6), .mov (.t 1), none⟩,
  ⟨(some 7), .call (.c (.fn 79 [] [])) [(.t 5), (.t 6)], none⟩,
  ⟨(some 8), .bin .geq (.t 7) (.c (.int .i64 0)), none⟩,
  ⟨(some 4), .mov (.t 8), none⟩] none)
 (.ret))
theorem fn50 : env0.fn 50 = some ⟨9, ic50, [.t 4]⟩ := by kernel_rfl
-- pneumatic/pneumaticlaw05.few
def ic17 : IC := .seq (.region [⟨(some 2), .mov (.c (.bool false)), none⟩] none)
 (.seq (.region [⟨(some 3), .mov (.t 0), none⟩,
  ⟨(some 4), .call (.c (.fn 50 [] [])) [(.t 3), (.c (.fn 51 [] []))], none⟩,
  ⟨(some 5), .un .not (.t 4), none⟩,
  ⟨(some 2), .mov (.t 5), none⟩] none)
 (.ret))
theorem fn17 : env0.fn 17 = some ⟨6, ic17, [.t 2]⟩ := by kernel_rfl
def zm5 (x : Ex) : Bool := decide (cnt 512 x ≤ 40) || (decide (cnt 512 x > 256) && (decide (cnt 512 x ≤ 512) && zdc 40 x))
theorem few52 (x : Ex) (hs : Slim x) : PF Try.prog 52 [.agg (cX x)] (.bool (zm5 x)) := by
 have p67 := zqz _ x 512 (Nat.le_refl _) hs (by omega) (by omega)
 have p78 := deep73 40 x 40 rfl (by omega) hs
 unfold zm5
 generalize cnt 512 x = c at *
 generalize zdc 40 x = dd at *
 obtain ⟨op, ix, args⟩ := x
 refine zbx env0_ok fn52 [(0, .agg (cX (.nd op ix args)))] (by show 1 ≤ 20; decide) rfl fun w0 N0 => ?_
 unfold ic52
 refine zai (za0 rfl (zbd rfl rfl (zad rfl (zab (zac ?_)))))
 refine ze6 [] [(0, 0, cX (.nd op ix args))] [(1, .vptr (cX (.nd op ix args)))] rfl (.cons rfl rfl .nil) .nil (.cons rfl (.fptr rfl rfl) .nil) ?_
 repeat (first | refine zai ?_ | refine za0 rfl ?_ | refine zar rfl rfl rfl rfl ?_)
 refine zbn rfl rfl p67 (fun h => Bool.noConfusion (show false = true from h)) ?_
 repeat (first | refine zai ?_ | refine za0 rfl ?_ | refine zab ?_ | refine zac ?_ | refine zad rfl ?_)
 refine zbm rfl rfl rfl (fun h1 => ?_) fun h1 => ?_
 ·repeat (first | refine zab ?_ | refine zac ?_ | refine zaz ?_ | refine zbu rfl rfl ?_ | refine zc6 rfl ?_ | refine zad rfl ?_ | refine zah rfl rfl ?_)
  exact zbe ⟨.inr rfl, _, rfl, by rw [h1]; rfl⟩
 ·rw [h1]
  repeat (first | refine zbs rfl ?_ | refine zad rfl ?_)
  refine zbm rfl rfl rfl (fun h2 => ?_) fun h2 => ?_
  ·rw [h2]
   repeat (first | refine zbs rfl ?_ | refine zad rfl ?_)
   refine zbm rfl rfl rfl (fun h3 => ?_) fun h3 => ?_
   ·rw [h3]
    repeat (first | refine zbs rfl ?_ | refine zad rfl ?_ | refine zar rfl rfl rfl rfl ?_ | refine zah rfl rfl ?_)
    refine zbn rfl rfl p78 (fun h => Bool.noConfusion (show false = true from h)) ?_
    repeat (first | refine zab ?_ | refine zac ?_ | refine zaz ?_ | refine zbs rfl ?_ | refine zad rfl ?_ | refine zah rfl rfl ?_ | refine zaa rfl rfl ?_)
    exact zbe ⟨.inr rfl, _, rfl, rfl⟩
   ·rw [h3]
    repeat (first | refine zab ?_ | refine zac ?_ | refine zaz ?_ | refine zbs rfl ?_ | refine zbu rfl rfl ?_ | refine zad rfl ?_ | refine zah rfl rfl ?_ | refine zaa rfl rfl ?_)
    exact zbe ⟨.inr rfl, _, rfl, rfl⟩
  ·rw [h2]
   repeat (first | refine zab ?_ | refine zac ?_ | refine zaz ?_ | refine zbs rfl ?_ | refine zbu rfl rfl ?_ | refine zad rfl ?_ | refine zaa rfl rfl ?_)
   exact zbe ⟨.inr rfl, _, rfl, rfl⟩
theorem few51 (x : Ex) (hs : Slim x) : PF Try.prog 51 [.agg (cX x)] (.bool (!zm5 x)) := by
 have p52 := few52 x hs
 generalize zm5 x = c at *
 obtain ⟨op, ix, args⟩ := x
 refine zbx env0_ok fn51 [(0, .agg (cX (.nd op ix args)))] (by show 1 ≤ 6; decide) rfl fun w0 N0 => ?_
 unfold ic51
 refine zai (za0 rfl (zbd rfl rfl (zad rfl (zab (zac ?_)))))
 refine ze6 [] [(0, 0, cX (.nd op ix args))] [(1, .vptr (cX (.nd op ix args)))] rfl (.cons rfl rfl .nil) .nil (.cons rfl (.fptr rfl rfl) .nil) ?_
 repeat (first | refine zai ?_ | refine za0 rfl ?_ | refine zar rfl rfl rfl rfl ?_)
 refine zbn rfl rfl p52 (fun h => Bool.noConfusion (show false = true from h)) ?_
 repeat (first | refine zab ?_ | refine zac ?_ | refine zaz ?_ | refine zad rfl ?_ | refine zc2 rfl rfl ?_)
 exact zbe ⟨.inr rfl, _, rfl, rfl⟩
end Go.Proofs.Ytmnkjofaodbokaa
namespace Go.Proofs.Ytmnkjofaodbokaa
open Go Go.Am
def fiX (p : Ex → Bool) (i : Nat) : List Ex → Int
 | [] => -1
 | x :: l => if p x = true then (i : Nat) else fiX p (i + 1) l
theorem fiX_step (p : Ex → Bool) {l : List Ex} {i : Nat} (h : i < l.length) : fiX p i (l.drop i) = if p l[i] = true then ((i : Nat) : Int) else fiX p (i + 1) (l.drop (i + 1)) := by
 rw [List.drop_eq_getElem_cons h]; rfl
theorem zr8 (p : Ex → Bool) : ∀ (l : List Ex) (i : Nat), decide (fiX p i l ≥ 0) = l.any p
 | [], i => rfl
 | x :: l, i => by
  rw [List.any_cons]
  unfold fiX
  cases h : p x with
  | true => rw [if_pos rfl, Bool.true_or, decide_eq_true (by omega)]
  | false => rw [if_neg Bool.false_ne_true, Bool.false_or, zr8 p l (i + 1)]
theorem index79 (l : List Ex) (hl : l.length < 9223372036854775807) (hs : ∀ x ∈ l, Slim x) : PF Try.prog 79 [.vs (cXs l), .fn 51 [] []] (.int .i64 (fiX (fun x => !zm5 x) 0 l)) := by
 have hcl := zbi l
 refine zbx env0_ok fn79 [(0, .vs (cXs l)), (1, .fn 51 [] [])] (by show 2 ≤ 19; decide) rfl fun w0 N0 => ?_
 unfold ic79
 repeat (first | refine zai ?_ | refine za0 rfl ?_ | refine zab ?_ | refine zac ?_ | refine zaj ?_ | refine zad rfl ?_ | refine zbh rfl rfl ?_)
 refine ze5 (fun mm S => ∃ i, mm = l.length - i ∧ i ≤ l.length ∧ fiX (fun x => !zm5 x) i (l.drop i) = fiX (fun x => !zm5 x) 0 l ∧ S = st 19 [(0, .vs (cXs l)), (1, .fn 51 [] []), (7, .int .i64 (cXs l).length), (8, .int .i64 (i : Nat))] [] 0 0) l.length
  (zbq (.cons rfl (.cons rfl (.cons rfl (.cons rfl .nil))))) ⟨0, rfl, Nat.zero_le _, rfl, rfl⟩ ?_
 rintro mm S ⟨i, rfl, hi, hv, rfl⟩
 unfold b79_0
 repeat (first | refine zai ?_ | refine za0 rfl ?_)
 refine zbm rfl rfl rfl (fun h3 => ?_) fun h3 => ?_
 ·have hlt : i < l.length := by
   have h4 : ((i : Nat) : Int) < (((cXs l).length : Nat) : Int) := of_decide_eq_true h3
   omega
  have w1 : IntKind.wrap .i64 (((i : Nat) : Int) + 1) = ((i + 1 : Nat) : Int) := zc8 i (by omega)
  have hg := zd8 hlt
  have hst := fiX_step (fun x => !zm5 x) hlt
  have p51 := few51 l[i] (hs _ (List.getElem_mem hlt))
  generalize l[i] = a at *
  generalize zm5 a = fa at *
  obtain ⟨op, ix, args⟩ := a
  repeat (first | refine zai ?_ | refine za0 rfl ?_ | refine zab ?_ | refine zac ?_ | refine zaj ?_ | refine zat ?_ | refine zbl rfl ?_ | refine zad rfl ?_ | refine zar rfl rfl rfl rfl ?_ | refine zb3 rfl rfl (by omega) (by assumption) rfl ?_)
  refine zgu rfl rfl rfl p51 (fun h => Bool.noConfusion (show false = true from h)) ?_
  cases fa with
  | false =>
   rw [Bool.not_false, if_pos rfl, hv] at hst
   repeat (first | refine zai ?_ | refine za0 rfl ?_ | refine zab ?_ | refine zac ?_ | refine zbl rfl ?_ | refine zaz ?_ | refine za2 ?_ | refine za7 ?_ | refine zad rfl ?_)
   exact zbe ⟨.inr rfl, _, rfl, by rw [hst]; rfl⟩
  | true =>
   rw [Bool.not_true, if_neg Bool.false_ne_true, hv] at hst
   repeat (first | refine za0 rfl ?_ | refine zab ?_ | refine zac ?_ | refine zbg ?_ | refine zat ?_ | refine zbo rfl ?_ | refine zad rfl ?_ | refine zav (op := .add) rfl rfl rfl ?_)
   rw [w1]
   exact zcs (show l.length - (i + 1) < l.length - i by omega) (zbq (.cons rfl (.cons rfl (.cons rfl (.cons rfl .nil))))) ⟨i + 1, rfl, hlt, hst.symm, rfl⟩
 ·have hie : i = l.length := by
   have h4 : ¬ ((i : Nat) : Int) < (((cXs l).length : Nat) : Int) := of_decide_eq_false h3
   omega
  rw [hie, List.drop_length] at hv
  repeat (first | refine zai ?_ | refine zab ?_ | refine zac ?_ | refine zbo rfl ?_ | refine zb5 ?_ | refine za6 ?_)
  refine zfs ?_
  repeat (first | refine zai ?_ | refine za0 rfl ?_ | refine zab ?_ | refine zac ?_ | refine zaz ?_ | refine zb4 ?_ | refine zad rfl ?_)
  exact zbe ⟨.inr rfl, _, rfl, by rw [← hv]; rfl⟩
theorem zp5 (l : List Ex) (hl : l.length < 9223372036854775807) (hs : ∀ x ∈ l, Slim x) : PF Try.prog 50 [.vs (cXs l), .fn 51 [] []] (.bool (l.any fun x => !zm5 x)) := by
 have p79 := index79 l hl hs
 rw [← zr8 _ l 0]
 generalize fiX (fun x => !zm5 x) 0 l = z at *
 refine zbx env0_ok fn50 [(0, .vs (cXs l)), (1, .fn 51 [] [])] (by show 2 ≤ 9; decide) rfl fun w0 N0 => ?_
 unfold ic50
 repeat (first | refine zai ?_ | refine za0 rfl ?_ | refine zab ?_ | refine zac ?_ | refine zad rfl ?_)
 refine zbn rfl rfl p79 (fun h => Bool.noConfusion (show false = true from h)) ?_
 refine zbm rfl rfl rfl (fun h => ?_) fun h => ?_
 ·repeat (first | refine zab ?_ | refine zac ?_ | refine zaz ?_ | refine zad rfl ?_)
  exact zbe ⟨.inr rfl, _, rfl, by rw [h]; rfl⟩
 ·repeat (first | refine zab ?_ | refine zac ?_ | refine zaz ?_ | refine zad rfl ?_)
  exact zbe ⟨.inr rfl, _, rfl, by rw [h]; rfl⟩
theorem few17 (l : List Ex) (hl : l.length < 9223372036854775807) (hs : ∀ x ∈ l, Slim x) : PF Try.prog 17 [.vs (cXs l)] (.bool (l.all zm5)) := by
 have p50 := zp5 l hl hs
 have e : l.all zm5 = !(l.any fun x => !zm5 x) := by
  rw [List.not_any_eq_all_not]
  simp only [Bool.not_not]
 rw [e]
 generalize (l.any fun x => !zm5 x) = z at *
 refine zbx env0_ok fn17 [(0, .vs (cXs l))] (by show 1 ≤ 6; decide) rfl fun w0 N0 => ?_
 unfold ic17
 repeat (first | refine zai ?_ | refine za0 rfl ?_ | refine zab ?_ | refine zac ?_ | refine zad rfl ?_)
 refine zbn rfl rfl p50 (fun h => Bool.noConfusion (show false = true from h)) ?_
 repeat (first | refine zab ?_ | refine zac ?_ | refine zaz ?_ | refine zad rfl ?_ | refine zc2 rfl rfl ?_)
 exact zbe ⟨.inr rfl, _, rfl, rfl⟩
end Go.Proofs.Ytmnkjofaodbokaa
namespace Go.Proofs.Ytmnkjofaodbokaa
open Go Go.Am
def mxI (a b : Int) : Int := if b > a then b else a
mutual
def dpX : Ex → Int
 | .nd _ _ args => dpL 0 args + 1
def dpL (a : Int) : List Ex → Int
 | [] => a
 | y :: ys => dpL (mxI a (dpX y)) ys
end
theorem mxI_le {a b : Int} : a ≤ mxI a b ∧ b ≤ mxI a b := by unfold mxI; split <;> omega
theorem znw : ∀ (l : List Ex) (a : Int), a ≤ dpL a l
 | [], a => by rw [dpL]; omega
 | y :: ys, a => by
  rw [dpL]
  have := znw ys (mxI a (dpX y))
  have := @mxI_le a (dpX y)
  omega
theorem zmj : ∀ x : Ex, 1 ≤ dpX x
 | .nd op ix args => by rw [dpX]; have := znw args 0; omega
theorem zr3 : ∀ (l : List Ex) (a : Int), 0 ≤ a → dpL a l = mxI a (dpL 0 l)
 | [], a, h => by rw [dpL, dpL]; unfold mxI; split <;> omega
 | y :: ys, a, h => by
  have hp := zmj y
  rw [dpL, dpL, zr3 ys (mxI a (dpX y)) (by unfold mxI; split <;> omega), zr3 ys (mxI 0 (dpX y)) (by unfold mxI; split <;> omega)]
  generalize dpL 0 ys = z at *
  unfold mxI
  repeat' split
  all_goals omega
mutual
theorem walkD : ∀ (x : Ex) (d n m : Int), 1 ≤ d → d ≤ 17 → 0 ≤ n → n + szX x ≤ 256 → zdc (17 - d).toNat x = true → zej zew d x (n, m) = .inl (n + szX x, mxI m (d - 1 + dpX x))
 | .nd op ix args => fun d n m hd h17 h0 hn hb => by
  rw [szX] at hn ⊢
  rw [zej, dpX]
  have hs0 := zcw args
  have h16 : d ≤ 16 := by
   by_cases h : d ≤ 16
   ·exact h
   ·rw [show (17 - d).toNat = 0 by omega] at hb
    simp [zdc] at hb
  rw [show (17 - d).toNat = (16 - d).toNat + 1 by omega, zgm] at hb
  have hst : zew (n, m) d (.nd op ix args) = .inl (n + 1, zk0 m d) := by
   unfold zew
   rw [if_neg (by dsimp only; omega)]
  rw [hst]
  dsimp only
  rw [walkLD args d (n + 1) (zk0 m d) hd h16 (by omega) (by omega) hb (by unfold zk0; split <;> omega), ← Int.add_assoc]
  have h1 := znw args 0
  generalize dpL 0 args = z at *
  have : mxI (zk0 m d) (d + z) = mxI m (d - 1 + (z + 1)) := by
   unfold mxI zk0
   repeat' split
   all_goals omega
  rw [this]
theorem walkLD : ∀ (l : List Ex) (d n m : Int), 1 ≤ d → d ≤ 16 → 0 ≤ n → n + szL l ≤ 256 → l.all (zdc (16 - d).toNat) = true → d ≤ m → zet zew d l (n, m) = .inl (n + szL l, mxI m (d + dpL 0 l))
 | [] => fun d n m hd h16 h0 hn hb hm => by
  rw [szL, zet, Int.add_zero, dpL]
  have : mxI m (d + 0) = m := by unfold mxI; split <;> omega
  rw [this]
 | y :: ys => fun d n m hd h16 h0 hn hb hm => by
  rw [szL] at hn ⊢
  have hp := zfr y
  have hq := zcw ys
  rw [List.all_cons, Bool.and_eq_true] at hb
  have hy := walkD y (d + 1) n m (by omega) (by omega) h0 (by omega) (by rw [show (17 - (d + 1)).toNat = (16 - d).toNat by omega]; exact hb.1)
  rw [zet, if_pos h16, hy]
  dsimp only
  rw [walkLD ys d (n + szX y) _ hd h16 (by omega) (by omega) hb.2 (by have := @mxI_le m (d + 1 - 1 + dpX y); omega), dpL, ← Int.add_assoc]
  have h3 := zmj y
  have h4 := znw ys 0
  rw [zr3 ys (mxI 0 (dpX y)) (by unfold mxI; split <;> omega)]
  generalize dpL 0 ys = z at *
  have : mxI (mxI m (d + 1 - 1 + dpX y)) (d + z) = mxI m (d + mxI (mxI 0 (dpX y)) z) := by
   unfold mxI
   repeat' split
   all_goals omega
  rw [this]
end
theorem zpd (x : Ex) : zg5 x = if zcp x = true then .tup [.int .i64 (szX x), .int .i64 (dpX x), .bool true] else .tup [.int .i64 0, .int .i64 0, .bool false] := by
 unfold zg5
 by_cases hl : zcp x = true
 ·have h := (zdx x).1 hl
  rw [if_pos hl, walkD x 1 0 0 (by omega) (by omega) (by omega) (by omega) h.2]
  dsimp only
  have h1 := zmj x
  have : mxI 0 (1 - 1 + dpX x) = dpX x := by unfold mxI; split <;> omega
  rw [this, Int.zero_add]
 ·have hw := walkM x 1 0 0 (by omega) (by omega) (by omega) (by omega)
  rw [Int.zero_add, show ((17 : Int) - 1).toNat = 16 from rfl, if_neg (fun h => hl ((zdx x).2 h))] at hw
  rw [if_neg hl, hw]
end Go.Proofs.Ytmnkjofaodbokaa
namespace Go.Proofs.Ytmnkjofaodbokaa
open Go Go.Am
theorem zen {f g : FuncId} {args bs : List AV} {v w : AV} {l : List (FuncId × List AV × AV)} (h : g ≠ f) (k : zf1 l f args = some w) : zf1 ((g, bs, v) :: l) f args = some w := by
 simp [zf1, h, k]
theorem szX_mem {op ix : Int} {args : List Ex} {y : Ex} (h : y ∈ args) : szX y ≤ szX (.nd op ix args) := by
 rw [szX]
 have : ∀ l : List Ex, y ∈ l → szX y ≤ szL l := by
  intro l
  induction l with
  | nil => intro h; cases h
  | cons a l ih =>
   intro h
   rw [szL]
   have := zfr a
   have := zcw l
   rcases List.mem_cons.1 h with rfl | h
   ·omega
   ·have := ih h; omega
 have := this args h
 omega
end Go.Proofs.Ytmnkjofaodbokaa
