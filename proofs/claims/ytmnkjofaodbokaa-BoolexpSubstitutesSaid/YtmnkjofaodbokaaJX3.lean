/-
  R10, R11, R12, R13, R14, R15, R16, R17 in one text.; THE EXAMPLES OF THE CHAPTER.; LISTS OF NUMBERS AS THE MACHINE HOLDS THEM; LISTS THAT ARE GONE THROUGH.; SMALL EXPRESSIONS.; LISTS OF SMALL EXPRESSIONS.; RIGHT EXPRESSIONS; HOW MANY NODES THEY HAVE AND HOW DEEP THEY ARE.; THE REFERENCE's DEPTH AND SIZE; WHETHER A VARIABLE OCCURS.; EXPRESSIONS THAT ARE EQUAL, NODE BY NODE.
-/
import Derived.Test.YtmnkjofaodbokaaJX2
namespace Go.Proofs.Ytmnkjofaodbokaa
open Go Go.Am
mutual
def szX : Ex → Int
 | .nd _ _ args => 1 + szL args
def szL : List Ex → Int
 | [] => 0
 | y :: ys => szX y + szL ys
end
mutual
theorem ze0 : ∀ x : Ex, 1 ≤ szX x
 | .nd op ix args => by
  rw [szX]
  have := zbr args
  omega
theorem zbr : ∀ l : List Ex, 0 ≤ szL l
 | [] => by rw [szL]; exact Int.le_refl _
 | y :: ys => by
  rw [szL]
  have := ze0 y
  have := zbr ys
  omega
end
theorem zbx : ∀ l : List Ex, (l.length : Int) ≤ szL l
 | [] => by rw [szL]; exact Int.le_refl _
 | y :: ys => by
  rw [szL, List.length_cons]
  have := ze0 y
  have := zbx ys
  omega
mutual
theorem zpd : ∀ x : Ex, szX x ≤ 256 → Thin x
 | .nd op ix args => fun h => by
  rw [szX] at h
  have := zbx args
  exact .nd (by omega) (zr1 args (by omega))
theorem zr1 : ∀ l : List Ex, szL l ≤ 256 → ∀ y ∈ l, Thin y
 | [] => fun _ y hy => absurd hy List.not_mem_nil
 | x :: xs => fun h y hy => by
  rw [szL] at h
  have h1 := ze0 x
  have h2 := zbr xs
  rcases List.mem_cons.1 hy with he | hm
  ·rw [he]
   exact zpd x (by omega)
  ·exact zr1 xs (by omega) y hm
end
mutual
theorem cnt_eq (most : Int) (h : 0 ≤ most) : ∀ x : Ex, cnt most x = if szX x ≤ most then szX x else most + 1
 | .nd op ix args => by
  rw [cnt, szX]
  exact ztc most h 1 (by omega) (by omega) args
theorem ztc (most : Int) (h : 0 ≤ most) (n : Int) (h1 : 1 ≤ n) (h2 : n ≤ most + 1) : ∀ l : List Ex, zo8 most n l = if n + szL l ≤ most then n + szL l else most + 1
 | [] => by
  rw [zo8, szL]
  split <;> omega
 | y :: ys => by
  rw [zo8, szL]
  have hy := ze0 y
  have hys := zbr ys
  split
  ·have e := cnt_eq (most - n) (by omega) y
   have b := zkb (most - n) (by omega) y
   rw [ztc most h _ (by omega) (by omega) ys]
   split at e <;> rw [e] <;> (repeat' split) <;> omega
  ·rw [if_neg (by omega)]
   omega
end
theorem zd0 (m : Nat) (op ix : Int) (args : List Ex) : zcm (m + 1) (.nd op ix args) = args.all (zcm m) := by
 rw [zcm]
 split
 ·rename_i h
  subst h
  cases args with
  | nil => rfl
  | cons a l => simp [zcm]
 ·rfl
def zcj (x : Ex) : Bool := decide (cnt 256 x ≤ 256) && zcm 16 x
theorem zcy (x : Ex) : zcj x = true ↔ szX x ≤ 256 ∧ zcm 16 x = true := by
 unfold zcj
 rw [Bool.and_eq_true, decide_eq_true_iff, cnt_eq 256 (by omega)]
 constructor
 ·intro ⟨a, b⟩
  refine ⟨?_, b⟩
  split at a <;> omega
 ·intro ⟨a, b⟩
  exact ⟨by rw [if_pos a]; exact a, b⟩
mutual
theorem walkM : ∀ (x : Ex) (d n m : Int), 1 ≤ d → d ≤ 17 → 0 ≤ n → n ≤ 256 →
  if n + szX x ≤ 256 ∧ zcm (17 - d).toNat x = true then ∃ m', zf2 zfg d x (n, m) = .inl (n + szX x, m') else zf2 zfg d x (n, m) = .inr ()
 | .nd op ix args => fun d n m hd h17 h0 hn => by
  rw [zf2, szX]
  unfold zfg
  have hs0 := zbr args
  by_cases hs : n + 1 > 256 ∨ d > 16
  ·rw [if_pos hs, if_neg]
   intro ⟨a, b⟩
   rcases hs with hs | hs
   ·omega
   ·rw [show (17 - d).toNat = 0 by omega] at b
    simp [zcm] at b
  ·rw [if_neg hs, show (17 - d).toNat = (16 - d).toNat + 1 by omega, zd0, ← Int.add_assoc]
   exact walkLM args d (n + 1) (zlc m d) hd (by omega) (by omega) (by omega)
theorem walkLM : ∀ (l : List Ex) (d n m : Int), 1 ≤ d → d ≤ 16 → 0 ≤ n → n ≤ 256 →
  if n + szL l ≤ 256 ∧ l.all (zcm (16 - d).toNat) = true then ∃ m', zfc zfg d l (n, m) = .inl (n + szL l, m') else zfc zfg d l (n, m) = .inr ()
 | [] => fun d n m hd h16 h0 hn => by
  rw [szL, zfc, if_pos ⟨by omega, rfl⟩, Int.add_zero]
  exact ⟨m, rfl⟩
 | y :: ys => fun d n m hd h16 h0 hn => by
  have hy := walkM y (d + 1) n m (by omega) (by omega) h0 hn
  rw [zfc, if_pos h16, szL]
  rw [show (17 - (d + 1)).toNat = (16 - d).toNat by omega] at hy
  have hp := ze0 y
  have hq := zbr ys
  by_cases hc : n + szX y ≤ 256 ∧ zcm (16 - d).toNat y = true
  ·rw [if_pos hc] at hy
   obtain ⟨m', hy⟩ := hy
   rw [hy, List.all_cons, hc.2, Bool.true_and, ← Int.add_assoc]
   exact walkLM ys d (n + szX y) m' hd h16 (by omega) hc.1
  ·rw [if_neg hc] at hy
   rw [hy, if_neg]
   intro ⟨a, b⟩
   rw [List.all_cons, Bool.and_eq_true] at b
   exact hc ⟨by omega, b.1⟩
end
mutual
theorem walkC (z : Int) : ∀ (x : Ex) (d : Int), 1 ≤ d → d ≤ 17 → zcm (17 - d).toNat x = true → zf2 (znt z) d x () = if nds z x = 0 then .inl () else .inr (nds z x)
 | .nd op ix args => fun d hd h17 hb => by
  have h16 : d ≤ 16 := by
   by_cases h : d ≤ 16
   ·exact h
   ·rw [show (17 - d).toNat = 0 by omega] at hb
    simp [zcm] at hb
  rw [show (17 - d).toNat = (16 - d).toNat + 1 by omega, zd0] at hb
  rw [zf2, nds]
  unfold znt zv0
  by_cases h : zbv op ix args.length z = 0
  ·simp only [if_pos h]
   exact walkLC z args d hd h16 hb
  ·simp only [if_neg h]
theorem walkLC (z : Int) : ∀ (l : List Ex) (d : Int), 1 ≤ d → d ≤ 16 → l.all (zcm (16 - d).toNat) = true → zfc (znt z) d l () = if zqd z l = 0 then .inl () else .inr (zqd z l)
 | [] => fun d hd h16 hb => by rw [zfc, zqd, if_pos rfl]
 | y :: ys => fun d hd h16 hb => by
  rw [List.all_cons, Bool.and_eq_true] at hb
  have hy := walkC z y (d + 1) (by omega) (by omega) (by rw [show (17 - (d + 1)).toNat = (16 - d).toNat by omega]; exact hb.1)
  rw [zfc, if_pos h16, hy, zqd]
  by_cases h : nds z y = 0
  ·simp only [if_pos h]
   exact walkLC z ys d hd h16 hb.2
  ·simp only [if_neg h]
end
def zbq (x : Ex) (n : Int) : Int := if n < 0 ∨ n > 256 then 2 else if zcj x = true then nds n x else 5
theorem zek (x : Ex) (n : Int) : ziu x n = zbq x n := by
 unfold ziu zbq
 split
 ·rfl
 ·have hw := walkM x 1 0 0 (by omega) (by omega) (by omega) (by omega)
  rw [Int.zero_add, show ((17 : Int) - 1).toNat = 16 from rfl] at hw
  by_cases hl : zcj x = true
  ·rw [if_pos ((zcy x).1 hl)] at hw
   obtain ⟨m', hw⟩ := hw
   rw [hw, if_pos hl]
   dsimp only
   rw [walkC n x 1 (by omega) (by omega) ((zcy x).1 hl).2]
   by_cases h : nds n x = 0
   ·rw [if_pos h]; exact h.symm
   ·rw [if_neg h]
  ·rw [if_neg (fun h => hl ((zcy x).2 h))] at hw
   rw [hw, if_neg hl]
-- pneumatic/pneumaticref05.Light
def ic48 : IC := .seq (.region [⟨(some 1), .box (.t 0), none⟩,
  ⟨(some 2), .mov (.c (.bool false)), none⟩] none)
 (.seq (.region [⟨(some 3), .load (some 3) (.t 1), none⟩,
  ⟨(some 4), .call (.c (.fn 67 [] [])) [(.t 3), (.c (.int .i64 256))], none⟩,
  ⟨(some 5), .bin .leq (.t 4) (.c (.int .i64 256)), none⟩,
  ⟨(some 6), .mov (.t 5), none⟩,
  ⟨(some 7), .load (some 3) (.t 1), some (6, true)⟩,
  ⟨(some 8), .call (.c (.fn 78 [] [])) [(.t 7), (.c (.int .i64 16))], some (6, true)⟩,
  ⟨(some 9), .pick (.t 6) (.t 8) (.c (.bool false)), none⟩,
  ⟨(some 2), .mov (.t 9), none⟩] none)
 (.ret))
theorem fn48 : env0.fn 48 = some ⟨10, ic48, [.t 2]⟩ := by kernel_rfl
theorem zly (x : Ex) (hs : Slim x) : PF Try.prog 48 [.agg (cX x)] (.bool (zcj x)) := by
 have h72 := ztg _ x 256 (Nat.le_refl _) hs (by decide) (by decide)
 have h73 := deep73 16 x 16 rfl (by decide) hs
 have hl : zcj x = (decide (cnt 256 x ≤ 256) && zcm 16 x) := rfl
 rw [hl]
 obtain ⟨op, ix, args⟩ := x
 refine zb3 env0_ok fn48 [(0, .agg (cX (.nd op ix args)))] (by show 1 ≤ 10; decide) rfl fun w0 N0 => ?_
 unfold ic48
 repeat (first | refine za6 ?_ | refine za0 rfl ?_ | refine za3 ?_ | refine za2 ?_ | refine za4 rfl ?_ | refine zaa rfl rfl rfl rfl ?_ | refine zbd rfl rfl ?_)
 refine zar rfl rfl h72 (fun h => Bool.noConfusion (show false = true from h)) ?_
 refine zaw rfl rfl rfl (fun h1 => ?_) fun h1 => ?_
 ·rw [h1, Bool.true_and]
  repeat (first | refine zc2 rfl ?_ | refine za4 rfl ?_ | refine zaa rfl rfl rfl rfl ?_)
  refine zar rfl rfl h73 (fun h => Bool.noConfusion (show false = true from h)) ?_
  repeat (first | refine za3 ?_ | refine za2 ?_ | refine zah ?_ | refine za4 rfl ?_ | refine zaj rfl rfl ?_)
  exact zak ⟨.inr rfl, _, rfl, rfl⟩
 ·rw [h1, Bool.false_and]
  repeat (first | refine za3 ?_ | refine za2 ?_ | refine zah ?_ | refine zcv rfl rfl ?_ | refine za4 rfl ?_ | refine zac rfl rfl ?_)
  exact zak ⟨.inr rfl, _, rfl, rfl⟩
-- pneumatic/pneumaticref05.Check
def ic33 : IC := .seq (.region [⟨(some 2), .box (.t 0), none⟩,
  ⟨(some 4), .mov (.c (.int .i64 0)), none⟩] none)
 (.seq (.seq (.region [⟨(some 5), .mov (.t 1), none⟩,
  ⟨(some 6), .bin .lss (.t 5) (.c (.int .i64 0)), none⟩,
  ⟨(some 7), .mov (.t 6), none⟩,
  ⟨(some 8), .mov (.t 1), some (7, false)⟩,
  ⟨(some 9), .bin .gtr (.t 8) (.c (.int .i64 256)), some (7, false)⟩,
  ⟨(some 10), .pick (.t 7) (.c (.bool true)) (.t 9), none⟩] none)
 (.cond (.t 10) (.seq (.region [⟨(some 4), .mov (.c (.int .i64 2)), none⟩] none)
 (.ret))
 (.skip)))
 (.seq (.seq (.region [⟨(some 11), .load (some 3) (.t 2), none⟩,
  ⟨(some 12), .call (.c (.fn 48 [] [])) [(.t 11)], none⟩,
  ⟨(some 13), .un .not (.t 12), none⟩] none)
 (.cond (.t 13) (.seq (.region [⟨(some 4), .mov (.c (.int .i64 5)), none⟩] none)
 (.ret))
 (.skip)))
 (.seq (.region [⟨(some 14), .load (some 3) (.t 2), none⟩,
  ⟨(some 15), .mov (.t 1), none⟩,
  ⟨(some 16), .call (.c (.fn 71 [] [])) [(.t 14), (.t 15)], none⟩,
  ⟨(some 4), .mov (.t 16), none⟩] none)
 (.ret))))
theorem fn33 : env0.fn 33 = some ⟨17, ic33, [.t 4]⟩ := by kernel_rfl
theorem zl8 (x : Ex) (hs : Slim x) (n : Int) : PF Try.prog 33 [.agg (cX x), .int .i64 n] (.int .i64 (zbq x n)) := by
 have h47 := zly x hs
 have h89 : zcj x = true → PF Try.prog 71 [.agg (cX x), .int .i64 n] (.int .i64 (nds n x)) := fun h => nodes89 n _ x (Nat.le_refl _) (zpd x ((zcy x).1 h).1)
 obtain ⟨op, ix, args⟩ := x
 refine zb3 env0_ok fn33 [(0, .agg (cX (.nd op ix args))), (1, .int .i64 n)] (by show 2 ≤ 17; decide) rfl fun w0 N0 => ?_
 unfold ic33 zbq
 repeat (first | refine za6 ?_ | refine za0 rfl ?_ | refine za3 ?_ | refine za2 ?_ | refine za4 rfl ?_ | refine zbd rfl rfl ?_)
 refine zaw rfl rfl rfl (fun h1 => ?_) fun h1 => ?_
 ·rw [if_pos (.inl (of_decide_eq_true h1))]
  repeat (first | refine za6 ?_ | refine za0 rfl ?_ | refine za3 ?_ | refine za2 ?_ | refine zbg rfl ?_ | refine zah ?_ | refine za5 ?_ | refine zcv rfl rfl ?_ | refine za4 rfl ?_ | refine zaj rfl rfl ?_)
  exact zak ⟨.inr rfl, _, rfl, rfl⟩
 repeat (first | refine zc2 rfl ?_ | refine za4 rfl ?_)
 refine zaw rfl rfl rfl (fun h2 => ?_) fun h2 => ?_
 ·rw [if_pos (.inr (of_decide_eq_true h2))]
  repeat (first | refine za6 ?_ | refine za0 rfl ?_ | refine za3 ?_ | refine za2 ?_ | refine zbg rfl ?_ | refine zah ?_ | refine za5 ?_ | refine za4 rfl ?_ | refine zac rfl rfl ?_)
  exact zak ⟨.inr rfl, _, rfl, rfl⟩
 rw [if_neg (fun h => h.elim (of_decide_eq_false h1) (of_decide_eq_false h2))]
 repeat (first | refine za6 ?_ | refine za0 rfl ?_ | refine za3 ?_ | refine za2 ?_ | refine zae ?_ | refine zbl rfl ?_ | refine zaa rfl rfl rfl rfl ?_ | refine zac rfl rfl ?_)
 cases hl : zcj (.nd op ix args) with
 | true =>
  rw [hl] at h47
  rw [if_pos rfl]
  refine zar rfl rfl h47 (fun h => Bool.noConfusion (show false = true from h)) ?_
  repeat (first | refine za6 ?_ | refine za0 rfl ?_ | refine za3 ?_ | refine za2 ?_ | refine zae ?_ | refine zbl rfl ?_ | refine za4 rfl ?_ | refine zaa rfl rfl rfl rfl ?_ | refine zd2 rfl rfl ?_)
  refine zar rfl rfl (h89 hl) (fun h => Bool.noConfusion (show false = true from h)) ?_
  repeat (first | refine za3 ?_ | refine za2 ?_ | refine zah ?_ | refine za4 rfl ?_)
  exact zak ⟨.inr rfl, _, rfl, rfl⟩
 | false =>
  rw [hl] at h47
  rw [if_neg (by simp)]
  refine zar rfl rfl h47 (fun h => Bool.noConfusion (show false = true from h)) ?_
  repeat (first | refine za6 ?_ | refine za0 rfl ?_ | refine za3 ?_ | refine za2 ?_ | refine zbg rfl ?_ | refine zah ?_ | refine za5 ?_ | refine za4 rfl ?_ | refine zd2 rfl rfl ?_)
  exact zak ⟨.inr rfl, _, rfl, rfl⟩
end Go.Proofs.Ytmnkjofaodbokaa
namespace Go.Proofs.Ytmnkjofaodbokaa
open Go Go.Am
mutual
def zck (v : List Bool) : Ex → Bool
 | .nd op ix args => if op = 0 then ix == 1 else if op = 1 then v.getD ix.toNat false else if op = 2 then !(zg8 v args).headD false else if op = 3 then (zg8 v args).all id else (zg8 v args).any id
def zg8 (v : List Bool) : List Ex → List Bool
 | [] => []
 | y :: ys => zck v y :: zg8 v ys
end
theorem zgs (v : List Bool) : ∀ l : List Ex, zg8 v l = l.map (zck v)
 | [] => by simp [zg8]
 | y :: ys => by simp [zg8, zgs v ys]
def vsB (v : List Bool) : AV := .vs (v.map fun b => [.bool b])
theorem zch {n op ix : Int} {args : List Ex} (h : nds n (.nd op ix args) = 0) : zbv op ix args.length n = 0 ∧ ∀ y ∈ args, nds n y = 0 := by
 rw [nds] at h
 split at h
 ·rename_i h1
  refine ⟨h1, ?_⟩
  clear h1
  induction args with
  | nil => exact fun _ hy => absurd hy List.not_mem_nil
  | cons y ys ih =>
   rw [zqd] at h
   split at h
   ·rename_i h2
    intro z hz
    rcases List.mem_cons.1 hz with rfl | hm
    ·exact h2
    ·exact ih h z hm
   ·rename_i h2; exact absurd h h2
 ·rename_i h1; exact absurd h h1
theorem zfu {op ix k n : Int} (h : zbv op ix k n = 0) : 0 ≤ op ∧ op < 5 ∧ zbm op ≤ k ∧ k ≤ zcd op ∧ 0 ≤ ix ∧ ix ≤ zc4 op n := by
 unfold zbv at h
 split at h
 ·exact absurd h (by decide)
 ·split at h
  ·exact absurd h (by decide)
  ·split at h
   ·exact absurd h (by decide)
   ·omega
theorem vs_get (v : List Bool) (i : Nat) (h : i < v.length) : (v.map fun b => ([.bool b] : List AV))[i]? = some [.bool (v.getD i false)] := by
 rw [List.getElem?_map, List.getElem?_eq_getElem h, List.getD_eq_getElem?_getD, List.getElem?_eq_getElem h]
 rfl
end Go.Proofs.Ytmnkjofaodbokaa
namespace Go.Proofs.Ytmnkjofaodbokaa
open Go Go.Am
def body81 : IC := .seq (.region [⟨(some 10), .bin .lss (.t 9) (.t 8), none⟩] none)
 (.seq (.cond (.t 10) (.skip)
 (.exit 0))
 (.seq (.block 1 (.seq (.region [⟨(some 11), .idxs 3 (.t 7) (.t 9), none⟩,
  ⟨(some 12), .load (some 3) (.t 11), none⟩,
  ⟨(some 5), .alloc [.int .i64 0, .int .i64 0, .nils], none⟩,
  ⟨none, .store 3 (.t 5) (.t 12), none⟩] none)
 (.seq (.region [⟨(some 13), .mov (.t 0), none⟩,
  ⟨(some 14), .load (some 3) (.t 5), none⟩,
  ⟨(some 15), .load none (.t 2), none⟩,
  ⟨(some 16), .call (.c (.fn 53 [] [])) [(.t 14), (.t 15)], none⟩,
  ⟨(some 17), .call (.t 13) [(.t 16)], none⟩,
  ⟨(some 18), .un .not (.t 17), none⟩] none)
 (.cond (.t 18) (.ret)
 (.skip)))))
 (.region [⟨(some 19), .bin .add (.t 9) (.c (.int .i64 1)), none⟩,
  ⟨(some 9), .mov (.t 19), none⟩] none)))
-- pneumatic/boolexp.eval$1
def ic81 : IC := .seq (.region [⟨(some 6), .faddr 2 (.t 1), none⟩,
  ⟨(some 7), .load none (.t 6), none⟩,
  ⟨(some 8), .len false (.t 7), none⟩,
  ⟨(some 9), .mov (.c (.int .i64 0)), none⟩] none)
 (.block 0 (.loop body81))
theorem fn81 : env0.fn 81 = some ⟨20, ic81, []⟩ := by kernel_rfl
def tabE : Tab := [
 (102, [
  ([.bool false], .fn 119 [] [.vptr [.bool false]]),
  ([.bool true], .fn 119 [] [.vptr [.bool true]])])]
theorem tabE_ok : TabOk Try.prog tabE := TabOk.of_run (env0_ok.tab TabOk.nil (pure := [])) (n := 60) (by kernel_rfl)
theorem every111 : PF Try.prog 102 [.bool false] (.fn 119 [] [.vptr [.bool false]]) := tabE_ok _ (List.mem_cons_self ..) _ (List.mem_cons_self ..)
section
variable {σ τ : Type} {step : σ → Bool → σ ⊕ τ} {M : Nat → Prop} {I : σ → HS → Prop} {J : τ → HS → Prop}
def zlh (step : σ → Bool → σ ⊕ τ) : List Bool → σ → σ ⊕ τ
 | [], s => .inl s
 | b :: l, s => match step s b with
  | .inl s' => zlh step l s'
  | .inr t => .inr t
set_option maxHeartbeats 2000000 in
theorem seq110 {w0 : World} {N0 id sp : Nat} (v : List Bool) (op ix : Int) (args : List Ex) (hlen : args.length ≤ 256) (hev : ∀ y ∈ args, PF Try.prog 53 [.agg (cX y), vsB v] (.bool (zck v y))) (hloc : Local M I) (hy : ∀ s b H, I s H → CT Try.prog w0 N0 (.yield id sp) [.bool b] H (Left M I J H (step s b))) (H : HS) (s : σ) (hI : I s H) :
  FT Try.prog w0 N0 81 [.yield id sp, .vptr (cX (.nd op ix args)), .vptr [vsB v]] H fun _ H' => Keep M H H' ∧ match zlh step (args.map (zck v)) s with
   | .inl s' => I s' H'
   | .inr t => J t H' := by
 refine zo0 env0_ok fn81 [(0, .yield id sp), (1, .vptr (cX (.nd op ix args))), (2, .vptr [vsB v])] (by show 3 ≤ 20; decide) rfl ?_
 unfold ic81
 repeat (first | refine za6 ?_ | refine za0 rfl ?_ | refine za3 ?_ | refine za2 ?_ | refine zal ?_ | refine za4 rfl ?_ | refine zai rfl rfl ?_ | refine zap rfl rfl rfl ?_ | refine zbf rfl rfl ?_)
 refine zd9 (fun m S => ∃ i s' H', m = args.length - i ∧ i ≤ args.length ∧ zlh step (args.map (zck v)) s = zlh step ((args.drop i).map (zck v)) s' ∧ I s' H' ∧ Keep M H H' ∧
   S = st 20 [(0, .yield id sp), (2, .vptr [vsB v]), (7, .vs (cXs args)), (8, .int .i64 (cXs args).length), (9, .int .i64 (i : Nat))] H'.heap H'.next H'.clk) args.length
  (zat (.cons rfl (.cons rfl (.cons rfl (.cons rfl (.cons rfl .nil)))))) ⟨0, s, H, rfl, Nat.zero_le _, rfl, hI, Keep.refl M H, rfl⟩ ?_
 rintro m S ⟨i, s', H', rfl, hi, hwl, hI', hK', rfl⟩
 unfold body81
 repeat (first | refine za6 ?_ | refine za0 rfl ?_)
 refine zaw rfl rfl rfl (fun h1 => ?_) fun h1 => ?_
 ·have hlt : i < args.length := by
   have := of_decide_eq_true h1
   rw [zan] at this
   omega
  have hd : args.drop i = args[i] :: args.drop (i + 1) := List.drop_eq_getElem_cons hlt
  rw [hd, List.map_cons] at hwl
  have hge := zcg hlt
  have hmem : args[i] ∈ args := List.getElem_mem hlt
  generalize args[i] = y at hwl hge hmem
  have hevy := hev y hmem
  obtain ⟨yo, yi, ya⟩ := y
  repeat (first | refine za6 ?_ | refine za0 rfl ?_ | refine za3 ?_ | refine za2 ?_ | refine zal ?_ | refine zae ?_ | refine zbg rfl ?_)
  refine zb4 rfl rfl (Int.natCast_nonneg i) hge rfl ?_
  repeat (first | refine zaa rfl rfl rfl rfl ?_ | refine zam ?_)
  refine za8 rfl rfl rfl rfl zbs rfl rfl ?_
  rw [zgz]
  repeat (first | refine za6 ?_ | refine za0 rfl ?_ | refine za3 ?_ | refine za2 ?_ | refine za4 rfl ?_)
  refine zfv rfl zbs (Nat.lt_succ_self _) rfl rfl ?_
  repeat (first | refine zai rfl rfl ?_)
  refine zar rfl rfl hevy (fun h => Bool.noConfusion (show false = true from h)) ?_
  refine o_ct _ rfl rfl (hy s' (zck v (.nd yo yi ya)) ⟨_, _, _⟩ (hloc.new hI' _ _)) (fun _ _ _ _ hm => absurd hm List.not_mem_nil) fun v2 H3 hF3 => ?_
  obtain ⟨hK3, hF3⟩ := hF3
  have hK4 : Keep M H H3 := hK'.trans ((Keep.new M H' _).trans hK3)
  cases hst : step s' (zck v (.nd yo yi ya)) with
  | inr t =>
   rw [hst] at hF3
   obtain ⟨rfl, hJ⟩ := hF3
   repeat (first | refine za3 ?_ | refine za2 ?_ | refine zbg rfl ?_ | refine zah ?_ | refine za5 ?_ | refine zad ?_ | refine zd2 rfl rfl ?_)
   refine zh8 ?_
   repeat (first | refine zad ?_)
   refine zak ⟨.inr rfl, _, rfl, hK4, ?_⟩
   simp only [hwl, zlh, hst]
   exact hJ
  | inl s2 =>
   rw [hst] at hF3
   obtain ⟨rfl, hI2⟩ := hF3
   repeat (first | refine za0 rfl ?_ | refine za3 ?_ | refine za2 ?_ | refine zbk ?_ | refine zae ?_ | refine zbl rfl ?_ | refine za4 rfl ?_ | refine zd2 rfl rfl ?_ | refine zaz (op := .add) rfl rfl rfl ?_)
   rw [zbo i (by omega)]
   exact zbz (show args.length - (i + 1) < args.length - i by omega) (zat (.cons rfl (.cons rfl (.cons rfl (.cons rfl (.cons rfl .nil)))))) ⟨i + 1, s2, H3, rfl, hlt, by rw [hwl]; simp only [zlh, hst], hI2, hK4, rfl⟩
 ·have hi2 : i = args.length := by
   have := of_decide_eq_false h1
   rw [zan] at this
   omega
  repeat (first | refine za6 ?_ | refine za3 ?_ | refine za2 ?_ | refine zbl rfl ?_ | refine zb8 ?_ | refine zaf ?_)
  refine zdq ?_
  repeat (first | refine zb7 ?_)
  refine zak ⟨.inl rfl, _, rfl, hK', ?_⟩
  subst hi2
  rw [List.drop_length] at hwl
  simp only [hwl, List.map_nil, zlh]
  exact hI'
end
noncomputable def zr8 : Code := match env0.fn 119 with
 | some i => ((zd4 i.ic).headD (.skip, .skip)).1
 | none => .skip
noncomputable def zrb : Code := match env0.fn 119 with
 | some i => ((zd4 i.ic).headD (.skip, .skip)).2
 | none => .skip
def zt0 : IC := .region [⟨(some 4), .mov (.t 6), none⟩] none
def zo5 : IC := .block 1 (.seq (.region [⟨(some 7), .mov (.t 4), none⟩,
  ⟨(some 8), .load none (.t 1), none⟩,
  ⟨(some 9), .eqb true (.t 7) (.t 8), none⟩] none)
 (.cond (.t 9) (.seq (.region [⟨none, .store 1 (.t 3) (.c (.bool false)), none⟩] none)
 (.ret))
 (.skip)))
-- pneumatic/boolexp.every$1
noncomputable def ic119 : IC := .seq (.region [⟨(some 3), .alloc [.bool false], none⟩] none)
 (.seq (.seq (.region [⟨(some 5), .mov (.t 0), none⟩] none)
 (.block 0 (.rangeFunc (.t 5) [6] zr8 zrb zt0 zo5)))
 (.seq (.region [⟨none, .store 1 (.t 3) (.c (.bool true)), none⟩] none)
 (.ret)))
theorem fn119 : env0.fn 119 = some ⟨10, ic119, [.cell 3 none]⟩ := by kernel_rfl
def stepE (b : Bool) (_ : Unit) (r : Bool) : Unit ⊕ Unit := if r = b then .inl () else .inr ()
theorem foldE (b : Bool) : ∀ l : List Bool, zlh (stepE b) l () = if l.all (· == b) = true then .inl () else .inr ()
 | [] => rfl
 | r :: l => by
  rw [zlh, List.all_cons]
  unfold stepE
  cases r <;> cases b <;> first | exact foldE _ l | rfl
structure I115 (ltm : List (Nat × AV)) (_ : Unit) (H : HS) : Prop where
 nx : 3 ≤ H.next
 h2 : Am.look 2 H.heap = some (2, .loop .ready none 10 (zee ltm) [6] zr8 zrb (1, 1))
 h1 : Am.look 1 H.heap = some (1, .deferred)
 h0 : Am.look 0 H.heap = some (0, .cells [.bool false])
structure J115 (_ : Unit) (H : HS) : Prop where
 nx : 3 ≤ H.next
 h2 : ∃ tm, Am.look 2 H.heap = some (2, .loop .done (some .ret) 10 tm [6] zr8 zrb (1, 1))
 h1 : Am.look 1 H.heap = some (1, .deferred)
 h0 : Am.look 0 H.heap = some (0, .cells [.bool false])
theorem local115 (ltm : List (Nat × AV)) : Local (fun i => i < 3) (I115 ltm) :=
 ⟨fun s H h i hi => Nat.lt_of_lt_of_le hi h.nx, fun s H H' h hn hl =>
  ⟨Nat.le_trans h.nx hn, (hl 2 (by decide)).trans h.h2, (hl 1 (by decide)).trans h.h1, (hl 0 (by decide)).trans h.h0⟩⟩
set_option maxHeartbeats 2000000 in
theorem yield115 {w0 : World} {N0 : Nat} (ltm : List (Nat × AV)) (b : Bool) (g1 : zc0 (.t 1) ltm = some (.vptr [.bool b])) (g3 : zc0 (.t 3) ltm = some (.mptr 0 0 0)) (ha : Com Try.prog zr8 zt0) (hb : Com Try.prog zrb zo5) (s : Unit) (r : Bool) (H : HS) (h : I115 ltm s H) :
  CT Try.prog w0 N0 (.yield 2 2) [.bool r] H (Left (fun i => i < 3) (I115 ltm) J115 H (stepE b s r)) := by
 obtain ⟨nx, h2, h1, h0⟩ := h
 refine zpx (l0 := (6, .bool r) :: ltm) h2 ha hb rfl (by decide) rfl ?_
 unfold zt0
 repeat (first | refine za0 rfl ?_ | refine za3 ?_ | refine za4 rfl ?_)
 refine zak ⟨rfl, _, rfl, ?_⟩
 unfold zo5
 repeat (first | refine za6 ?_ | refine za0 rfl ?_ | refine zal ?_ | refine za4 rfl ?_)
 refine zai g1 rfl ?_
 cases r <;> cases b
 all_goals repeat (first | refine za6 ?_ | refine za0 rfl ?_ | refine za3 ?_ | refine za2 ?_ | refine zbk ?_ | refine zae ?_ | refine zbg rfl ?_ | refine zbl rfl ?_ | refine zc7 rfl rfl rfl ?_ | refine zc6 rfl rfl rfl ?_)
 all_goals first
  | (
    refine za8 (sp := 0) (cs := [.bool false]) g3 rfl rfl rfl (by rw [za1, if_neg (by decide)]; exact h0) rfl rfl ?_
    repeat (first | refine za3 ?_ | refine za2 ?_ | refine zah ?_ | refine zad ?_)
    refine zak ⟨10, zee ltm, [6], zr8, zrb, (1, 1), ?_, some .ret, rfl, ⟨Nat.le_refl _, Nat.le_refl _, fun i hi hj => ?_⟩, ?_⟩
    ·dsimp only [st]
     rw [za1, if_neg (by decide), za1, if_pos rfl]
    ·dsimp only [st]
     rw [za1, if_neg (by omega), za1, if_neg (by omega), za1, if_neg (by omega)]
    ·refine ⟨rfl, nx, ⟨zee ltm, ?_⟩, ?_, ?_⟩
     ·dsimp only [st]
      rw [za1, if_pos rfl]; rfl
     ·dsimp only [st]
      rw [za1, if_neg (by decide), za1, if_neg (by decide), za1, if_neg (by decide)]; exact h1
     ·dsimp only [st]
      rw [za1, if_neg (by decide), za1, if_pos rfl]; rfl)
  | (
    refine zak ⟨10, zee ltm, [6], zr8, zrb, (1, 1), ?_, none, rfl, ⟨Nat.le_refl _, Nat.le_refl _, fun i hi hj => ?_⟩, ?_⟩
    ·dsimp only [st]
     rw [za1, if_pos rfl]
    ·dsimp only [st]
     rw [za1, if_neg (by omega), za1, if_neg (by omega)]
    ·refine ⟨rfl, nx, ?_, ?_, ?_⟩
     ·dsimp only [st]
      rw [za1, if_pos rfl]; rfl
     ·dsimp only [st]
      rw [za1, if_neg (by decide), za1, if_neg (by decide)]; exact h1
     ·dsimp only [st]
      rw [za1, if_neg (by decide), za1, if_neg (by decide)]; exact h0)
set_option maxHeartbeats 2000000 in
theorem zlf (b : Bool) (v : List Bool) (op ix : Int) (args : List Ex) (hlen : args.length ≤ 256) (hev : ∀ y ∈ args, PF Try.prog 53 [.agg (cX y), vsB v] (.bool (zck v y))) :
  PF Try.prog 119 [.fn 81 [] [.vptr (cX (.nd op ix args)), .vptr [vsB v]], .vptr [.bool b]] (.bool ((args.map (zck v)).all (· == b))) := by
 refine zb3 env0_ok fn119 [(0, .fn 81 [] [.vptr (cX (.nd op ix args)), .vptr [vsB v]]), (1, .vptr [.bool b])] (by show 2 ≤ 10; decide) rfl fun w0 N0 => ?_
 unfold ic119
 repeat (first | refine za6 ?_ | refine za0 rfl ?_ | refine za3 ?_ | refine za2 ?_ | refine zal ?_ | refine za4 rfl ?_ | refine zam ?_)
 refine zpf (.inl rfl) rfl fun ha hb => (seq110 v op ix args hlen hev (local115 _) (fun s r H h => yield115 _ b rfl rfl ha hb s r H h) ⟨_, _, _⟩ () ⟨Nat.le_refl _, rfl, rfl, rfl⟩).mono fun v2 H2 hF => ?_
 obtain ⟨hK, hF⟩ := hF
 rw [foldE] at hF
 cases hall : (args.map (zck v)).all (· == b) with
 | true =>
  rw [hall, if_pos rfl] at hF
  obtain ⟨nx, h2, h1, h0⟩ := hF
  refine ⟨_, _, .normal, _, _, _, _, _, _, h2, by simp, rfl, fun z hz => ?_, ?_⟩
  ·obtain rfl := List.mem_singleton.1 hz
   rw [zao, if_neg (by decide)]; exact h1
  ·repeat (first | refine za6 ?_ | refine za0 rfl ?_ | refine za2 ?_ | refine zbk ?_)
   refine za8 (sp := 0) (cs := [.bool false]) rfl rfl rfl rfl (by rw [zao, if_neg (by decide)]; exact h0) rfl rfl ?_
   repeat (first | refine za3 ?_ | refine za2 ?_ | refine zah ?_)
   refine zak ⟨.inr rfl, .bool true, zh0 (zen 3) (zdi (sp := 0) (cs := [.bool true]) ?_ ?_), rfl⟩
   ·show Am.look 0 (zc1 1 (zc3 0 _ (zc1 2 H2.heap))) = _
    rw [zao, if_neg (by decide), za1, if_pos rfl]; rfl
   ·show 0 < H2.next; omega
 | false =>
  rw [hall, if_neg (by simp)] at hF
  obtain ⟨nx, ⟨tm, h2⟩, h1, h0⟩ := hF
  refine ⟨_, _, .ret, _, _, _, _, _, _, h2, by simp, rfl, fun z hz => ?_, ?_⟩
  ·obtain rfl := List.mem_singleton.1 hz
   rw [zao, if_neg (by decide)]; exact h1
  ·repeat (first | refine za5 ?_ | refine zad ?_)
   refine zak ⟨.inr rfl, .bool false, zh0 (zen 3) (zdi (sp := 0) (cs := [.bool false]) ?_ ?_), rfl⟩
   ·show Am.look 0 (zc1 1 (zc1 2 H2.heap)) = _
    rw [zao, if_neg (by decide), zao, if_neg (by decide)]; exact h0
   ·show 0 < H2.next; omega
-- pneumatic/boolexp.shapes$1
def ic103 : IC := .seq (.region [⟨(some 2), .mov (.c (.bool false)), none⟩] none)
 (.seq (.region [⟨(some 3), .call (.c (.fn 102 [] [])) [(.c (.bool false))], none⟩,
  ⟨(some 4), .mov (.t 0), none⟩,
  ⟨(some 5), .call (.t 3) [(.t 4)], none⟩,
  ⟨(some 6), .un .not (.t 5), none⟩,
  ⟨(some 2), .mov (.t 6), none⟩] none)
 (.ret))
theorem fn103 : env0.fn 103 = some ⟨7, ic103, [.t 2]⟩ := by kernel_rfl
theorem some112 (v : List Bool) (op ix : Int) (args : List Ex) (hlen : args.length ≤ 256) (hev : ∀ y ∈ args, PF Try.prog 53 [.agg (cX y), vsB v] (.bool (zck v y))) :
  PF Try.prog 103 [.fn 81 [] [.vptr (cX (.nd op ix args)), .vptr [vsB v]]] (.bool (!(args.map (zck v)).all (· == false))) := by
 refine zb3 env0_ok fn103 [(0, .fn 81 [] [.vptr (cX (.nd op ix args)), .vptr [vsB v]])] (by show 1 ≤ 7; decide) rfl fun w0 N0 => ?_
 unfold ic103
 repeat (first | refine za6 ?_ | refine za0 rfl ?_ | refine za3 ?_ | refine za2 ?_ | refine za4 rfl ?_)
 refine zar rfl rfl every111 (fun h => Bool.noConfusion (show false = true from h)) ?_
 repeat (first | refine za4 rfl ?_)
 refine zfm rfl rfl rfl (zlf false v op ix args hlen hev) (fun h => Bool.noConfusion (show false = true from h)) ?_
 repeat (first | refine za3 ?_ | refine za2 ?_ | refine zah ?_ | refine za4 rfl ?_ | refine zd2 rfl rfl ?_)
 exact zak ⟨.inr rfl, _, rfl, rfl⟩
end Go.Proofs.Ytmnkjofaodbokaa
namespace Go.Proofs.Ytmnkjofaodbokaa
open Go Go.Am
-- pneumatic/boolexp.eval
def ic53 : IC := .seq (.region [⟨(some 2), .box (.t 0), none⟩,
  ⟨(some 3), .box (.t 1), none⟩,
  ⟨(some 4), .mov (.c (.bool false)), none⟩] none)
 (.seq (.seq (.region [⟨(some 5), .faddr 0 (.t 2), none⟩,
  ⟨(some 6), .load none (.t 5), none⟩] none)
 (.block 0 (.seq (.region [⟨(some 8), .bin .eql (.t 6) (.c (.int .i64 0)), none⟩,
  ⟨(some 7), .mov (.t 8), none⟩] none)
 (.cond (.t 7) (.seq (.region [⟨(some 9), .faddr 1 (.t 2), none⟩,
  ⟨(some 10), .load none (.t 9), none⟩,
  ⟨(some 11), .bin .eql (.t 10) (.c (.int .i64 1)), none⟩,
  ⟨(some 4), .mov (.t 11), none⟩] none)
 (.ret))
 (.seq (.region [⟨(some 13), .bin .eql (.t 6) (.c (.int .i64 1)), none⟩,
  ⟨(some 12), .mov (.t 13), none⟩] none)
 (.cond (.t 12) (.seq (.region [⟨(some 14), .load none (.t 3), none⟩,
  ⟨(some 15), .faddr 1 (.t 2), none⟩,
  ⟨(some 16), .load none (.t 15), none⟩,
  ⟨(some 17), .idxs 1 (.t 14) (.t 16), none⟩,
  ⟨(some 18), .load none (.t 17), none⟩,
  ⟨(some 4), .mov (.t 18), none⟩] none)
 (.ret))
 (.skip)))))))
 (.seq (.region [⟨(some 19), .call (.c (.fn 80 [] [])) [], none⟩,
  ⟨(some 20), .faddr 0 (.t 2), none⟩,
  ⟨(some 21), .load none (.t 20), none⟩,
  ⟨(some 22), .idxagg 5 3 true (.t 19) (.t 21), none⟩,
  ⟨(some 23), .field 2 none (.t 22), none⟩,
  ⟨(some 24), .mkfn 81 [] [(.t 2), (.t 3)], none⟩,
  ⟨(some 25), .call (.t 23) [(.t 24)], none⟩,
  ⟨(some 4), .mov (.t 25), none⟩] (some [[], [], [1], [0, 2], [3], [], [4, 5, 0], [6, 6, 0, 1, 2, 3, 4, 5, 6]]))
 (.ret)))
theorem fn53 : env0.fn 53 = some ⟨26, ic53, [.t 4]⟩ := by kernel_rfl
theorem zr4 (a : Bool) : ([a].all (· == false)) = !a := by cases a <;> rfl
theorem all_true (l : List Bool) : l.all (· == true) = l.all id := by
 induction l with
 | nil => rfl
 | cons a l ih => rw [List.all_cons, List.all_cons, ih]; cases a <;> rfl
theorem zsu (l : List Bool) : (!l.all (· == false)) = l.any id := by
 induction l with
 | nil => rfl
 | cons a l ih => rw [List.all_cons, List.any_cons, ← ih]; cases a <;> simp
set_option maxHeartbeats 4000000 in
theorem eval100 (v : List Bool) : ∀ (q : Nat) (x : Ex), SizeOf.sizeOf x ≤ q → nds v.length x = 0 → PF Try.prog 53 [.agg (cX x), vsB v] (.bool (zck v x)) := by
 intro q
 induction q with
 | zero => intro x hq; cases x; simp at hq
 | succ q ih =>
 intro x hq hs
 obtain ⟨op, ix, args⟩ := x
 obtain ⟨hn, hch⟩ := zch hs
 obtain ⟨o0, o5, kl, km, i0, im⟩ := zfu hn
 have hlen : args.length ≤ 256 := by
  unfold zcd at km
  (repeat' split at km) <;> omega
 have hev : ∀ y ∈ args, PF Try.prog 53 [.agg (cX y), vsB v] (.bool (zck v y)) := fun y hy => ih y (by have := zed (op := op) (ix := ix) hy; omega) (hch y hy)
 have hop : op = 0 ∨ op = 1 ∨ op = 2 ∨ op = 3 ∨ op = 4 := by omega
 have hd : zck v (.nd op ix args) = if op = 0 then ix == 1 else if op = 1 then v.getD ix.toNat false else if op = 2 then !(zg8 v args).headD false else if op = 3 then (zg8 v args).all id else (zg8 v args).any id := by rw [zck]
 rw [hd]
 refine zb3 env0_ok fn53 [(0, .agg (cX (.nd op ix args))), (1, vsB v)] (by show 2 ≤ 26; decide) rfl fun w0 N0 => ?_
 unfold ic53
 rcases hop with rfl | rfl | rfl | rfl | rfl
 ·rw [if_pos rfl]
  repeat (first | refine za6 ?_ | refine za0 rfl ?_ | refine za3 ?_ | refine za2 ?_ | refine zal ?_ | refine zbg rfl ?_ | refine za4 rfl ?_ | refine zai rfl rfl ?_ | refine za9 rfl ?_ | refine zbd rfl rfl ?_ | refine zbe rfl rfl rfl ?_)
  refine zaw rfl rfl rfl (fun h1 => ?_) fun h1 => ?_
  ·rw [h1]
   repeat (first | refine za3 ?_ | refine za2 ?_ | refine zah ?_ | refine za5 ?_ | refine zad ?_ | refine za4 rfl ?_)
   exact zak ⟨.inr rfl, _, rfl, rfl⟩
  ·rw [h1]
   repeat (first | refine za3 ?_ | refine za2 ?_ | refine zah ?_ | refine za5 ?_ | refine zad ?_ | refine za4 rfl ?_)
   exact zak ⟨.inr rfl, _, rfl, rfl⟩
 ·rw [if_neg (by decide), if_pos rfl]
  repeat (first | refine za6 ?_ | refine za0 rfl ?_ | refine za3 ?_ | refine za2 ?_ | refine zal ?_ | refine zbg rfl ?_ | refine zbl rfl ?_ | refine za4 rfl ?_ | refine zai rfl rfl ?_ | refine za9 rfl ?_ | refine zbd rfl rfl ?_ | refine zbe rfl rfl rfl ?_ | refine zb5 rfl rfl rfl ?_)
  have hi : ix.toNat < v.length := by
   simp [zc4] at im
   omega
  refine zb4 rfl rfl i0 (vs_get v _ hi) rfl ?_
  repeat (first | refine za3 ?_ | refine za2 ?_ | refine zah ?_ | refine za5 ?_ | refine zad ?_ | refine za4 rfl ?_ | refine zai rfl rfl ?_)
  exact zak ⟨.inr rfl, _, rfl, rfl⟩
 ·rw [if_neg (by decide), if_neg (by decide), if_pos rfl]
  have h1 : args.length = 1 := by simp [zbm, zcd] at kl km; omega
  have heq : (args.map (zck v)).all (· == false) = !(zg8 v args).headD false := by
   obtain ⟨y, rfl⟩ := List.length_eq_one_iff.1 h1
   rw [zg8, zg8, List.map_cons, List.map_nil, zr4]
   rfl
  repeat (first | refine za6 ?_ | refine za0 rfl ?_ | refine za3 ?_ | refine za2 ?_ | refine zbk ?_ | refine zal ?_ | refine zae ?_ | refine zbl rfl ?_ | refine za4 rfl ?_ | refine zai rfl rfl ?_ | refine za9 rfl ?_ | refine zbd rfl rfl ?_ | refine zb5 rfl rfl rfl ?_)
  refine zev env0_ok [(80, [], zfa), (119, [.fn 81 [] [.vptr (cX (.nd 2 ix args)), .vptr [vsB v]], .vptr [.bool false]], .bool ((args.map (zck v)).all (· == false)))] (fun x hx => by rcases List.mem_cons.1 hx with rfl | hx; exact zh3; obtain rfl := List.mem_singleton.1 hx; exact zlf false v 2 ix args hlen hev) (fun f => Nat.beq f 80) rfl rfl rfl ?_
  refine zar rfl rfl zci (fun h => Bool.noConfusion (show false = true from h)) ?_
  unfold zfa
  repeat (first | refine zai rfl rfl ?_ | refine za9 rfl ?_ | refine zbj rfl rfl ?_ | refine zau rfl rfl rfl rfl ?_ | refine zbt rfl rfl ?_)
  refine zfm rfl rfl rfl (zhg (by decide) zci) (fun _ => rfl) ?_
  repeat (first | refine za3 ?_ | refine za2 ?_ | refine zah ?_ | refine za4 rfl ?_)
  refine zak ⟨.inr rfl, _, rfl, ?_⟩
  show AV.bool _ = AV.bool _
  exact congrArg AV.bool heq
 ·rw [if_neg (by decide), if_neg (by decide), if_neg (by decide), if_pos rfl, zgs]
  have heq : (args.map (zck v)).all (· == true) = (args.map (zck v)).all id := all_true _
  repeat (first | refine za6 ?_ | refine za0 rfl ?_ | refine za3 ?_ | refine za2 ?_ | refine zbk ?_ | refine zal ?_ | refine zae ?_ | refine zbl rfl ?_ | refine za4 rfl ?_ | refine zai rfl rfl ?_ | refine za9 rfl ?_ | refine zbd rfl rfl ?_ | refine zb5 rfl rfl rfl ?_)
  refine zev env0_ok [(80, [], zfa), (119, [.fn 81 [] [.vptr (cX (.nd 3 ix args)), .vptr [vsB v]], .vptr [.bool true]], .bool ((args.map (zck v)).all (· == true)))] (fun x hx => by rcases List.mem_cons.1 hx with rfl | hx; exact zh3; obtain rfl := List.mem_singleton.1 hx; exact zlf true v 3 ix args hlen hev) (fun f => Nat.beq f 80) rfl rfl rfl ?_
  refine zar rfl rfl zci (fun h => Bool.noConfusion (show false = true from h)) ?_
  unfold zfa
  repeat (first | refine zai rfl rfl ?_ | refine za9 rfl ?_ | refine zbj rfl rfl ?_ | refine zau rfl rfl rfl rfl ?_ | refine zbt rfl rfl ?_)
  refine zfm rfl rfl rfl (zhg (by decide) zci) (fun _ => rfl) ?_
  repeat (first | refine za3 ?_ | refine za2 ?_ | refine zah ?_ | refine za4 rfl ?_)
  refine zak ⟨.inr rfl, _, rfl, ?_⟩
  show AV.bool _ = AV.bool _
  exact congrArg AV.bool heq
 ·rw [if_neg (by decide), if_neg (by decide), if_neg (by decide), if_neg (by decide), zgs]
  have heq : (!(args.map (zck v)).all (· == false)) = (args.map (zck v)).any id := zsu _
  repeat (first | refine za6 ?_ | refine za0 rfl ?_ | refine za3 ?_ | refine za2 ?_ | refine zbk ?_ | refine zal ?_ | refine zae ?_ | refine zbl rfl ?_ | refine za4 rfl ?_ | refine zai rfl rfl ?_ | refine za9 rfl ?_ | refine zbd rfl rfl ?_ | refine zb5 rfl rfl rfl ?_)
  refine zev env0_ok [(80, [], zfa), (103, [.fn 81 [] [.vptr (cX (.nd 4 ix args)), .vptr [vsB v]]], .bool (!(args.map (zck v)).all (· == false)))] (fun x hx => by rcases List.mem_cons.1 hx with rfl | hx; exact zh3; obtain rfl := List.mem_singleton.1 hx; exact some112 v 4 ix args hlen hev) (fun f => Nat.beq f 80) rfl rfl rfl ?_
  refine zar rfl rfl zci (fun h => Bool.noConfusion (show false = true from h)) ?_
  unfold zfa
  repeat (first | refine zai rfl rfl ?_ | refine za9 rfl ?_ | refine zbj rfl rfl ?_ | refine zau rfl rfl rfl rfl ?_ | refine zbt rfl rfl ?_)
  refine zfm rfl rfl rfl (zhg (by decide) zci) (fun _ => rfl) ?_
  repeat (first | refine za3 ?_ | refine za2 ?_ | refine zah ?_ | refine za4 rfl ?_)
  refine zak ⟨.inr rfl, _, rfl, ?_⟩
  show AV.bool _ = AV.bool _
  exact congrArg AV.bool heq
-- pneumatic/boolexp.Eval
def ic18 : IC := .seq (.region [⟨(some 2), .box (.t 0), none⟩,
  ⟨(some 4), .mov (.c (.bool false)), none⟩,
  ⟨(some 5), .mov (.c (.int .i64 0)), none⟩] none)
 (.seq (.seq (.region [⟨(some 7), .load (some 3) (.t 2), none⟩,
  ⟨(some 8), .mov (.t 1), none⟩,
  ⟨(some 9), .len false (.t 8), none⟩,
  ⟨(some 10), .call (.c (.fn 32 [] [])) [(.t 7), (.t 9)], none⟩,
  ⟨(some 6), .mov (.t 10), none⟩] none)
 (.seq (.region [⟨(some 11), .mov (.t 6), none⟩,
  ⟨(some 12), .bin .neq (.t 11) (.c (.int .i64 0)), none⟩] none)
 (.cond (.t 12) (.seq (.region [⟨(some 13), .mov (.t 6), none⟩,
  ⟨(some 4), .mov (.c (.bool false)), none⟩,
  ⟨(some 5), .mov (.t 13), none⟩] none)
 (.ret))
 (.skip))))
 (.seq (.region [⟨(some 14), .load (some 3) (.t 2), none⟩,
  ⟨(some 15), .mov (.t 1), none⟩,
  ⟨(some 16), .call (.c (.fn 53 [] [])) [(.t 14), (.t 15)], none⟩,
  ⟨(some 4), .mov (.t 16), none⟩,
  ⟨(some 5), .mov (.c (.int .i64 0)), none⟩] none)
 (.ret)))
theorem fn18 : env0.fn 18 = some ⟨17, ic18, [.t 4, .t 5]⟩ := by kernel_rfl
def ztr (x : Ex) (v : List Bool) : AV := if zbq x v.length = 0 then .tup [.bool (zck v x), .int .i64 0] else .tup [.bool false, .int .i64 (zbq x v.length)]
theorem zfl {x : Ex} {n : Int} (h : zbq x n = 0) : nds n x = 0 := by
 unfold zbq at h
 split at h
 ·exact absurd h (by decide)
 ·split at h
  ·exact h
  ·exact absurd h (by decide)
theorem ztq (x : Ex) (hs : Slim x) (v : List Bool) : PF Try.prog 18 [.agg (cX x), vsB v] (ztr x v) := by
 have h59 := zit x hs v.length
 rw [zek] at h59
 have h100 : zbq x v.length = 0 → PF Try.prog 53 [.agg (cX x), vsB v] (.bool (zck v x)) := fun h => eval100 v _ x (Nat.le_refl _) (zfl h)
 have hl : ((v.map fun b => ([.bool b] : List AV)).length : Int) = v.length := by rw [List.length_map]
 obtain ⟨op, ix, args⟩ := x
 refine zb3 env0_ok fn18 [(0, .agg (cX (.nd op ix args))), (1, vsB v)] (by show 2 ≤ 17; decide) rfl fun w0 N0 => ?_
 unfold ic18 ztr
 repeat (first | refine za6 ?_ | refine za0 rfl ?_ | refine za3 ?_ | refine za2 ?_ | refine za4 rfl ?_ | refine zaa rfl rfl rfl rfl ?_ | refine zbf rfl rfl ?_ | refine zbd rfl rfl ?_)
 refine zar rfl (by rw [show (((fun n => AV.int .i64 n) (v.map fun b => ([.bool b] : List AV)).length) : AV) = .int .i64 v.length from congrArg _ hl]; rfl) h59 (fun h => Bool.noConfusion (show false = true from h)) ?_
 repeat (first | refine za6 ?_ | refine za0 rfl ?_ | refine za3 ?_ | refine za2 ?_ | refine za4 rfl ?_)
 refine zaw rfl rfl rfl (fun h1 => ?_) fun h1 => ?_
 ·have h1 := bne_iff_ne.1 h1
  rw [if_neg h1]
  repeat (first | refine za6 ?_ | refine za0 rfl ?_ | refine za3 ?_ | refine za2 ?_ | refine zbg rfl ?_ | refine zah ?_ | refine za5 ?_ | refine za4 rfl ?_)
  exact zak ⟨.inr rfl, _, rfl, rfl⟩
 ·have h1 : zbq (.nd op ix args) v.length = 0 := by simpa using h1
  rw [if_pos h1]
  repeat (first | refine za6 ?_ | refine za0 rfl ?_ | refine za3 ?_ | refine za2 ?_ | refine zae ?_ | refine zbl rfl ?_ | refine za4 rfl ?_ | refine zaa rfl rfl rfl rfl ?_)
  refine zar rfl rfl (h100 h1) (fun h => Bool.noConfusion (show false = true from h)) ?_
  repeat (first | refine za3 ?_ | refine za2 ?_ | refine zah ?_ | refine za4 rfl ?_)
  exact zak ⟨.inr rfl, _, rfl, rfl⟩
end Go.Proofs.Ytmnkjofaodbokaa
namespace Go.Proofs.Ytmnkjofaodbokaa
open Go Go.Am
end Go.Proofs.Ytmnkjofaodbokaa
namespace Go.Proofs.Ytmnkjofaodbokaa
open Go Go.Am
def wkV (i : Int) : Ex := .nd 1 i []
def wkA : Ex := .nd 3 0 [wkV 0, .nd 2 0 [.nd 4 0 [wkV 1, wkV 2]]]
def wkB : Ex := .nd 3 0 [wkV 0, .nd 3 0 [wkV 1, .nd 0 1 []], wkV 0]
def wkC : Ex := .nd 3 0 [wkV 0, wkV 1]
def wkD : Ex := .nd 4 0 [wkV 0, .nd 2 0 [wkV 0]]
theorem zg5 (i : Int) : Slim (wkV i) := .nd (by decide) (fun _ h => by cases h)
theorem slimA : Slim wkA := .nd (by decide) fun y hy => by
 simp only [List.mem_cons, List.not_mem_nil, or_false] at hy
 rcases hy with rfl | rfl
 ·exact zg5 0
 ·refine .nd (by decide) fun y hy => ?_
  obtain rfl := List.mem_singleton.1 hy
  refine .nd (by decide) fun y hy => ?_
  simp only [List.mem_cons, List.not_mem_nil, or_false] at hy
  rcases hy with rfl | rfl
  ·exact zg5 1
  ·exact zg5 2
theorem slimB' : Slim wkB := .nd (by decide) fun y hy => by
 simp only [List.mem_cons, List.not_mem_nil, or_false] at hy
 rcases hy with rfl | rfl | rfl
 ·exact zg5 0
 ·refine .nd (by decide) fun y hy => ?_
  simp only [List.mem_cons, List.not_mem_nil, or_false] at hy
  rcases hy with rfl | rfl
  ·exact zg5 1
  ·exact .nd (by decide) (fun _ h => by cases h)
 ·exact zg5 0
theorem slimC : Slim wkC := .nd (by decide) fun y hy => by
 simp only [List.mem_cons, List.not_mem_nil, or_false] at hy
 rcases hy with rfl | rfl
 ·exact zg5 0
 ·exact zg5 1
theorem slimD : Slim wkD := .nd (by decide) fun y hy => by
 simp only [List.mem_cons, List.not_mem_nil, or_false] at hy
 rcases hy with rfl | rfl
 ·exact zg5 0
 ·refine .nd (by decide) fun y hy => ?_
  obtain rfl := List.mem_singleton.1 hy
  exact zg5 0
def tabC : Tab := [(32, [
 ([.agg [.int .i64 3, .int .i64 0, .vs [[.int .i64 1, .int .i64 0, .vs []], [.int .i64 2, .int .i64 0, .vs [[.int .i64 4, .int .i64 0, .vs [[.int .i64 1, .int .i64 1, .vs []], [.int .i64 1, .int .i64 2, .vs []]]]]]]], .int .i64 3], .int .i64 0),
 ([.agg [.int .i64 3, .int .i64 0, .vs [[.int .i64 1, .int .i64 0, .vs []], [.int .i64 3, .int .i64 0, .vs [[.int .i64 1, .int .i64 1, .vs []], [.int .i64 0, .int .i64 1, .vs []]]], [.int .i64 1, .int .i64 0, .vs []]]], .int .i64 3], .int .i64 0),
 ([.agg [.int .i64 3, .int .i64 0, .vs [[.int .i64 1, .int .i64 0, .vs []], [.int .i64 1, .int .i64 1, .vs []]]], .int .i64 3], .int .i64 0),
 ([.agg [.int .i64 4, .int .i64 0, .vs [[.int .i64 1, .int .i64 0, .vs []], [.int .i64 2, .int .i64 0, .vs [[.int .i64 1, .int .i64 0, .vs []]]]]], .int .i64 3], .int .i64 0)])]
theorem tabC_ok : TabOk Try.prog tabC := by
 intro x hx y hy
 unfold tabC at hx
 obtain rfl := List.mem_singleton.1 hx
 simp only [List.mem_cons, List.not_mem_nil, or_false] at hy
 have key : ∀ e : Ex, Slim e → ziu e 3 = 0 → PF Try.prog 32 [.agg (cX e), .int .i64 3] (.int .i64 0) := fun e hs h => by
  have := zit e hs 3
  rwa [h] at this
 rcases hy with rfl | rfl | rfl | rfl
 ·exact key wkA slimA (by rw [zek]; kernel_rfl)
 ·exact key wkB slimB' (by rw [zek]; kernel_rfl)
 ·exact key wkC slimC (by rw [zek]; kernel_rfl)
 ·exact key wkD slimD (by rw [zek]; kernel_rfl)
def tabA : Tab := [
 (13, [
  ([], .bool true)])]
theorem tabA_ok : TabOk Try.prog tabA := TabOk.of_run (env0_ok.tab tabC_ok (pure := [])) (n := 80) (by kernel_rfl)
theorem ze6 : PF Try.prog 13 [] (.bool true) := tabA_ok _ (List.mem_cons_self ..) _ (List.mem_cons_self ..)
end Go.Proofs.Ytmnkjofaodbokaa
namespace Go.Proofs.Ytmnkjofaodbokaa
open Go Go.Am
def vsI (l : List Int) : AV := .vs (l.map fun z => [.int .i64 z])
theorem ztx (l : List Int) : (l.map (AV.int .i64)) = (l.map fun z => ([.int .i64 z] : List AV)).flatten := by
 induction l with
 | nil => rfl
 | cons z l ih => simpa using ih
theorem zw5 {S : AS} {d id sp len : Nat} {cap : Option Nat} {J : List AV} (a : List Int) (hn : a.length = len) (hl : Am.look id S.heap = some (sp, .cells (a.map (AV.int .i64) ++ J))) : S.view (d + 1) (.ms id sp 1 0 len cap) = vsI a := by
 subst hn
 have e : S.elems 1 (.ms id sp 1 0 a.length cap) = some (a.map fun z => ([.int .i64 z] : List AV)) := by
  obtain ⟨n, t, hp, nx, ck, mk⟩ := S
  exact zgq (ys := J) (cap := cap) (n := n) (nx := nx) (ck := ck) (mk := mk) (l := []) (hp := hp) (by rw [← ztx]; exact hl) (List.length_map ..) (fun x hx => by obtain ⟨s, _, rfl⟩ := List.mem_map.1 hx; rfl)
 simp only [AS.view, e]
 unfold vsI
 congr 1
 rw [List.map_map]
 apply List.map_congr_left
 intro s _
 cases d <;> rfl
theorem zw3 {S : AS} {d id sp len : Nat} {cap : Option Nat} (a : List Int) (hn : a.length = len) (hl : Am.look id S.heap = some (sp, .cells (a.map (AV.int .i64)))) : S.view (d + 1) (.ms id sp 1 0 len cap) = vsI a :=
 zw5 (J := []) a hn (by rw [List.append_nil]; exact hl)
theorem Keep.mono {M M' : Nat → Prop} {H H' : HS} (h : Keep M H H') (hm : ∀ i, M i → M' i) : Keep M' H H' :=
 ⟨h.next, h.clk, fun i hi => h.look i fun h => hi (hm i h)⟩
theorem zjq {a b c d : AV} (h1 : a = c) (h2 : b = d) : [a, b] = [c, d] := by rw [h1, h2]
end Go.Proofs.Ytmnkjofaodbokaa
namespace Go.Proofs.Ytmnkjofaodbokaa
open Go Go.Am
-- pneumatic/pneumaticref05.Few
def ic52 : IC := .seq (.region [⟨(some 1), .box (.t 0), none⟩,
  ⟨(some 2), .mov (.c (.bool false)), none⟩] none)
 (.seq (.region [⟨(some 4), .load (some 3) (.t 1), none⟩,
  ⟨(some 5), .call (.c (.fn 67 [] [])) [(.t 4), (.c (.int .i64 512))], none⟩,
  ⟨(some 3), .mov (.t 5), none⟩] none)
 (.seq (.region [⟨(some 6), .mov (.t 3), none⟩,
  ⟨(some 7), .bin .leq (.t 6) (.c (.int .i64 40)), none⟩,
  ⟨(some 8), .mov (.t 7), none⟩,
  ⟨(some 9), .mov (.t 3), some (8, false)⟩,
  ⟨(some 10), .bin .gtr (.t 9) (.c (.int .i64 256)), some (8, false)⟩,
  ⟨(some 11), .mov (.t 10), some (8, false)⟩,
  ⟨(some 12), .mov (.t 3), some (11, true)⟩,
  ⟨(some 13), .bin .leq (.t 12) (.c (.int .i64 512)), some (11, true)⟩,
  ⟨(some 14), .pick (.t 11) (.t 13) (.c (.bool false)), some (8, false)⟩,
  ⟨(some 15), .mov (.t 14), some (8, false)⟩,
  ⟨(some 16), .load (some 3) (.t 1), some (15, true)⟩,
  ⟨(some 17), .call (.c (.fn 78 [] [])) [(.t 16), (.c (.int .i64 40))], some (15, true)⟩,
  ⟨(some 18), .pick (.t 15) (.t 17) (.c (.bool false)), some (8, false)⟩,
  ⟨(some 19), .pick (.t 8) (.c (.bool true)) (.t 18), none⟩,
  ⟨(some 2), .mov (.t 19), none⟩] none)
 (.ret)))
theorem fn52 : env0.fn 52 = some ⟨20, ic52, [.t 2]⟩ := by kernel_rfl
-- pneumatic/pneumaticlaw05.few$1
def ic51 : IC := .seq (.region [⟨(some 1), .box (.t 0), none⟩,
  ⟨(some 2), .mov (.c (.bool false)), none⟩] none)
 (.seq (.region [⟨(some 3), .load (some 3) (.t 1), none⟩,
  ⟨(some 4), .call (.c (.fn 52 [] [])) [(.t 3)], none⟩,
  ⟨(some 5), .un .not (.t 4), none⟩,
  ⟨(some 2), .mov (.t 5), none⟩] none)
 (.ret))
theorem fn51 : env0.fn 51 = some ⟨6, ic51, [.t 2]⟩ := by kernel_rfl
def b79_0 : IC := .seq (.region [⟨(some 9), .bin .lss (.t 8) (.t 7), none⟩] none)
 (.seq (.cond (.t 9) (.skip)
 (.exit 0))
 (.seq (.block 1 (.seq (.region [⟨(some 10), .mov (.t 8), none⟩,
  ⟨(some 5), .mov (.t 10), none⟩] none)
 (.seq (.region [⟨(some 11), .mov (.t 1), none⟩,
  ⟨(some 12), .mov (.t 0), none⟩,
  ⟨(some 13), .mov (.t 5), none⟩,
  ⟨(some 14), .idxs 3 (.t 12) (.t 13), none⟩,
  ⟨(some 15), .load (some 3) (.t 14), none⟩,
  ⟨(some 16), .call (.t 11) [(.t 15)], none⟩] none)
 (.cond (.t 16) (.seq (.region [⟨(some 17), .mov (.t 5), none⟩,
  ⟨(some 4), .mov (.t 17), none⟩] none)
 (.ret))
 (.skip)))))
 (.region [⟨(some 18), .bin .add (.t 8) (.c (.int .i64 1)), none⟩,
  ⟨(some 8), .mov (.t 18), none⟩] none)))
-- slices.IndexFunc[[]pneumatic/api.Expr,pneumatic/api.Expr]
def ic79 : IC := .seq (.region [⟨(some 4), .mov (.c (.int .i64 0)), none⟩] none)
 (.seq (.seq (.region [⟨(some 6), .mov (.t 0), none⟩,
  ⟨(some 7), .len false (.t 6), none⟩,
  ⟨(some 8), .mov (.c (.int .i64 0)), none⟩] none)
 (.block 0 (.loop b79_0)))
 (.seq (.region [⟨(some 4), .mov (.c (.int .i64 (-1))), none⟩] none)
 (.ret)))
theorem fn79 : env0.fn 79 = some ⟨19, ic79, [.t 4]⟩ := by kernel_rfl
-- slices.ContainsFunc[[]pneumatic/api.Expr,pneumatic/api.Expr]
def ic50 : IC := .seq (.region [⟨(some 4), .mov (.c (.bool false)), none⟩] none)
 (.seq (.region [⟨(some 5), .mov (.t 0), none⟩,
  ⟨(some 6), .mov (.t 1), none⟩,
  ⟨(some 7), .call (.c (.fn 79 [] [])) [(.t 5), (.t 6)], none⟩,
  ⟨(some 8), .bin .geq (.t 7) (.c (.int .i64 0)), none⟩,
  ⟨(some 4), .mov (.t 8), none⟩] none)
 (.ret))
theorem fn50 : env0.fn 50 = some ⟨9, ic50, [.t 4]⟩ := by kernel_rfl
-- pneumatic/pneumaticlaw05.few
def ic17 : IC := .seq (.region [⟨(some 2), .mov (.c (.bool false)), none⟩] none)
 (.seq (.region [⟨(some 3), .mov (.t 0), none⟩,
  ⟨(some 4), .call (.c (.fn 50 [] [])) [(.t 3), (.c (.fn 51 [] []))], none⟩,
  ⟨(some 5), .un .not (.t 4), none⟩,
  ⟨(some 2), .mov (.t 5), none⟩] none)
 (.ret))
theorem fn17 : env0.fn 17 = some ⟨6, ic17, [.t 2]⟩ := by kernel_rfl
def zhy (x : Ex) : Bool := decide (cnt 512 x ≤ 40) || (decide (cnt 512 x > 256) && (decide (cnt 512 x ≤ 512) && zcm 40 x))
theorem few52 (x : Ex) (hs : Slim x) : PF Try.prog 52 [.agg (cX x)] (.bool (zhy x)) := by
 have p67 := ztg _ x 512 (Nat.le_refl _) hs (by omega) (by omega)
 have p78 := deep73 40 x 40 rfl (by omega) hs
 unfold zhy
 generalize cnt 512 x = c at *
 generalize zcm 40 x = dd at *
 obtain ⟨op, ix, args⟩ := x
 refine zb3 env0_ok fn52 [(0, .agg (cX (.nd op ix args)))] (by show 1 ≤ 20; decide) rfl fun w0 N0 => ?_
 unfold ic52
 refine za6 (za0 rfl (zbd rfl rfl (za4 rfl (za3 (za2 ?_)))))
 refine zce [] [(0, 0, cX (.nd op ix args))] [(1, .vptr (cX (.nd op ix args)))] rfl (.cons rfl rfl .nil) .nil (.cons rfl (.fptr rfl rfl) .nil) ?_
 repeat (first | refine za6 ?_ | refine za0 rfl ?_ | refine zaa rfl rfl rfl rfl ?_)
 refine zar rfl rfl p67 (fun h => Bool.noConfusion (show false = true from h)) ?_
 repeat (first | refine za6 ?_ | refine za0 rfl ?_ | refine za3 ?_ | refine za2 ?_ | refine za4 rfl ?_)
 refine zaw rfl rfl rfl (fun h1 => ?_) fun h1 => ?_
 ·repeat (first | refine za3 ?_ | refine za2 ?_ | refine zah ?_ | refine zcv rfl rfl ?_ | refine zf8 rfl ?_ | refine za4 rfl ?_ | refine zaj rfl rfl ?_)
  exact zak ⟨.inr rfl, _, rfl, by rw [h1]; rfl⟩
 ·rw [h1]
  repeat (first | refine zc2 rfl ?_ | refine za4 rfl ?_)
  refine zaw rfl rfl rfl (fun h2 => ?_) fun h2 => ?_
  ·rw [h2]
   repeat (first | refine zc2 rfl ?_ | refine za4 rfl ?_)
   refine zaw rfl rfl rfl (fun h3 => ?_) fun h3 => ?_
   ·rw [h3]
    repeat (first | refine zc2 rfl ?_ | refine za4 rfl ?_ | refine zaa rfl rfl rfl rfl ?_ | refine zaj rfl rfl ?_)
    refine zar rfl rfl p78 (fun h => Bool.noConfusion (show false = true from h)) ?_
    repeat (first | refine za3 ?_ | refine za2 ?_ | refine zah ?_ | refine zc2 rfl ?_ | refine za4 rfl ?_ | refine zaj rfl rfl ?_ | refine zac rfl rfl ?_)
    exact zak ⟨.inr rfl, _, rfl, rfl⟩
   ·rw [h3]
    repeat (first | refine za3 ?_ | refine za2 ?_ | refine zah ?_ | refine zc2 rfl ?_ | refine zcv rfl rfl ?_ | refine za4 rfl ?_ | refine zaj rfl rfl ?_ | refine zac rfl rfl ?_)
    exact zak ⟨.inr rfl, _, rfl, rfl⟩
  ·rw [h2]
   repeat (first | refine za3 ?_ | refine za2 ?_ | refine zah ?_ | refine zc2 rfl ?_ | refine zcv rfl rfl ?_ | refine za4 rfl ?_ | refine zac rfl rfl ?_)
   exact zak ⟨.inr rfl, _, rfl, rfl⟩
theorem few51 (x : Ex) (hs : Slim x) : PF Try.prog 51 [.agg (cX x)] (.bool (!zhy x)) := by
 have p52 := few52 x hs
 generalize zhy x = c at *
 obtain ⟨op, ix, args⟩ := x
 refine zb3 env0_ok fn51 [(0, .agg (cX (.nd op ix args)))] (by show 1 ≤ 6; decide) rfl fun w0 N0 => ?_
 unfold ic51
 refine za6 (za0 rfl (zbd rfl rfl (za4 rfl (za3 (za2 ?_)))))
 refine zce [] [(0, 0, cX (.nd op ix args))] [(1, .vptr (cX (.nd op ix args)))] rfl (.cons rfl rfl .nil) .nil (.cons rfl (.fptr rfl rfl) .nil) ?_
 repeat (first | refine za6 ?_ | refine za0 rfl ?_ | refine zaa rfl rfl rfl rfl ?_)
 refine zar rfl rfl p52 (fun h => Bool.noConfusion (show false = true from h)) ?_
 repeat (first | refine za3 ?_ | refine za2 ?_ | refine zah ?_ | refine za4 rfl ?_ | refine zd2 rfl rfl ?_)
 exact zak ⟨.inr rfl, _, rfl, rfl⟩
end Go.Proofs.Ytmnkjofaodbokaa
namespace Go.Proofs.Ytmnkjofaodbokaa
open Go Go.Am
def fiX (p : Ex → Bool) (i : Nat) : List Ex → Int
 | [] => -1
 | x :: l => if p x = true then (i : Nat) else fiX p (i + 1) l
theorem zq4 (p : Ex → Bool) {l : List Ex} {i : Nat} (h : i < l.length) : fiX p i (l.drop i) = if p l[i] = true then ((i : Nat) : Int) else fiX p (i + 1) (l.drop (i + 1)) := by
 rw [List.drop_eq_getElem_cons h]; rfl
theorem zog (p : Ex → Bool) : ∀ (l : List Ex) (i : Nat), decide (fiX p i l ≥ 0) = l.any p
 | [], i => rfl
 | x :: l, i => by
  rw [List.any_cons]
  unfold fiX
  cases h : p x with
  | true => rw [if_pos rfl, Bool.true_or, decide_eq_true (by omega)]
  | false => rw [if_neg Bool.false_ne_true, Bool.false_or, zog p l (i + 1)]
theorem index79 (l : List Ex) (hl : l.length < 9223372036854775807) (hs : ∀ x ∈ l, Slim x) : PF Try.prog 79 [.vs (cXs l), .fn 51 [] []] (.int .i64 (fiX (fun x => !zhy x) 0 l)) := by
 have hcl := zan l
 refine zb3 env0_ok fn79 [(0, .vs (cXs l)), (1, .fn 51 [] [])] (by show 2 ≤ 19; decide) rfl fun w0 N0 => ?_
 unfold ic79
 repeat (first | refine za6 ?_ | refine za0 rfl ?_ | refine za3 ?_ | refine za2 ?_ | refine zal ?_ | refine za4 rfl ?_ | refine zbf rfl rfl ?_)
 refine zd9 (fun mm S => ∃ i, mm = l.length - i ∧ i ≤ l.length ∧ fiX (fun x => !zhy x) i (l.drop i) = fiX (fun x => !zhy x) 0 l ∧ S = st 19 [(0, .vs (cXs l)), (1, .fn 51 [] []), (7, .int .i64 (cXs l).length), (8, .int .i64 (i : Nat))] [] 0 0) l.length
  (zat (.cons rfl (.cons rfl (.cons rfl (.cons rfl .nil))))) ⟨0, rfl, Nat.zero_le _, rfl, rfl⟩ ?_
 rintro mm S ⟨i, rfl, hi, hv, rfl⟩
 unfold b79_0
 repeat (first | refine za6 ?_ | refine za0 rfl ?_)
 refine zaw rfl rfl rfl (fun h3 => ?_) fun h3 => ?_
 ·have hlt : i < l.length := by
   have h4 : ((i : Nat) : Int) < (((cXs l).length : Nat) : Int) := of_decide_eq_true h3
   omega
  have w1 : IntKind.wrap .i64 (((i : Nat) : Int) + 1) = ((i + 1 : Nat) : Int) := zbo i (by omega)
  have hg := zcg hlt
  have hst := zq4 (fun x => !zhy x) hlt
  have p51 := few51 l[i] (hs _ (List.getElem_mem hlt))
  generalize l[i] = a at *
  generalize zhy a = fa at *
  obtain ⟨op, ix, args⟩ := a
  repeat (first | refine za6 ?_ | refine za0 rfl ?_ | refine za3 ?_ | refine za2 ?_ | refine zal ?_ | refine zae ?_ | refine zbg rfl ?_ | refine za4 rfl ?_ | refine zaa rfl rfl rfl rfl ?_ | refine zb4 rfl rfl (by omega) (by assumption) rfl ?_)
  refine zfm rfl rfl rfl p51 (fun h => Bool.noConfusion (show false = true from h)) ?_
  cases fa with
  | false =>
   rw [Bool.not_false, if_pos rfl, hv] at hst
   repeat (first | refine za6 ?_ | refine za0 rfl ?_ | refine za3 ?_ | refine za2 ?_ | refine zbg rfl ?_ | refine zah ?_ | refine za5 ?_ | refine zad ?_ | refine za4 rfl ?_)
   exact zak ⟨.inr rfl, _, rfl, by rw [hst]; rfl⟩
  | true =>
   rw [Bool.not_true, if_neg Bool.false_ne_true, hv] at hst
   repeat (first | refine za0 rfl ?_ | refine za3 ?_ | refine za2 ?_ | refine zbk ?_ | refine zae ?_ | refine zbl rfl ?_ | refine za4 rfl ?_ | refine zaz (op := .add) rfl rfl rfl ?_)
   rw [w1]
   exact zbz (show l.length - (i + 1) < l.length - i by omega) (zat (.cons rfl (.cons rfl (.cons rfl (.cons rfl .nil))))) ⟨i + 1, rfl, hlt, hst.symm, rfl⟩
 ·have hie : i = l.length := by
   have h4 : ¬ ((i : Nat) : Int) < (((cXs l).length : Nat) : Int) := of_decide_eq_false h3
   omega
  rw [hie, List.drop_length] at hv
  repeat (first | refine za6 ?_ | refine za3 ?_ | refine za2 ?_ | refine zbl rfl ?_ | refine zb8 ?_ | refine zaf ?_)
  refine zdq ?_
  repeat (first | refine za6 ?_ | refine za0 rfl ?_ | refine za3 ?_ | refine za2 ?_ | refine zah ?_ | refine zb7 ?_ | refine za4 rfl ?_)
  exact zak ⟨.inr rfl, _, rfl, by rw [← hv]; rfl⟩
theorem zre (l : List Ex) (hl : l.length < 9223372036854775807) (hs : ∀ x ∈ l, Slim x) : PF Try.prog 50 [.vs (cXs l), .fn 51 [] []] (.bool (l.any fun x => !zhy x)) := by
 have p79 := index79 l hl hs
 rw [← zog _ l 0]
 generalize fiX (fun x => !zhy x) 0 l = z at *
 refine zb3 env0_ok fn50 [(0, .vs (cXs l)), (1, .fn 51 [] [])] (by show 2 ≤ 9; decide) rfl fun w0 N0 => ?_
 unfold ic50
 repeat (first | refine za6 ?_ | refine za0 rfl ?_ | refine za3 ?_ | refine za2 ?_ | refine za4 rfl ?_)
 refine zar rfl rfl p79 (fun h => Bool.noConfusion (show false = true from h)) ?_
 refine zaw rfl rfl rfl (fun h => ?_) fun h => ?_
 ·repeat (first | refine za3 ?_ | refine za2 ?_ | refine zah ?_ | refine za4 rfl ?_)
  exact zak ⟨.inr rfl, _, rfl, by rw [h]; rfl⟩
 ·repeat (first | refine za3 ?_ | refine za2 ?_ | refine zah ?_ | refine za4 rfl ?_)
  exact zak ⟨.inr rfl, _, rfl, by rw [h]; rfl⟩
theorem few17 (l : List Ex) (hl : l.length < 9223372036854775807) (hs : ∀ x ∈ l, Slim x) : PF Try.prog 17 [.vs (cXs l)] (.bool (l.all zhy)) := by
 have p50 := zre l hl hs
 have e : l.all zhy = !(l.any fun x => !zhy x) := by
  rw [List.not_any_eq_all_not]
  simp only [Bool.not_not]
 rw [e]
 generalize (l.any fun x => !zhy x) = z at *
 refine zb3 env0_ok fn17 [(0, .vs (cXs l))] (by show 1 ≤ 6; decide) rfl fun w0 N0 => ?_
 unfold ic17
 repeat (first | refine za6 ?_ | refine za0 rfl ?_ | refine za3 ?_ | refine za2 ?_ | refine za4 rfl ?_)
 refine zar rfl rfl p50 (fun h => Bool.noConfusion (show false = true from h)) ?_
 repeat (first | refine za3 ?_ | refine za2 ?_ | refine zah ?_ | refine za4 rfl ?_ | refine zd2 rfl rfl ?_)
 exact zak ⟨.inr rfl, _, rfl, rfl⟩
end Go.Proofs.Ytmnkjofaodbokaa
namespace Go.Proofs.Ytmnkjofaodbokaa
open Go Go.Am
-- pneumatic/pneumaticlaw05.right
def ic11 : IC := .seq (.region [⟨(some 2), .box (.t 0), none⟩,
  ⟨(some 4), .mov (.c (.bool false)), none⟩] none)
 (.seq (.region [⟨(some 5), .load (some 3) (.t 2), none⟩,
  ⟨(some 6), .bslice 3 1 [.int .i64 0, .int .i64 0, .nils] [(0, 3, (.t 5))], none⟩,
  ⟨(some 7), .call (.c (.fn 17 [] [])) [(.t 6)], none⟩,
  ⟨(some 8), .mov (.t 7), none⟩,
  ⟨(some 9), .load (some 3) (.t 2), some (8, true)⟩,
  ⟨(some 10), .mov (.t 1), some (8, true)⟩,
  ⟨(some 11), .call (.c (.fn 33 [] [])) [(.t 9), (.t 10)], some (8, true)⟩,
  ⟨(some 12), .bin .eql (.t 11) (.c (.int .i64 0)), some (8, true)⟩,
  ⟨(some 13), .pick (.t 8) (.t 12) (.c (.bool false)), none⟩,
  ⟨(some 4), .mov (.t 13), none⟩] none)
 (.ret))
theorem fn11 : env0.fn 11 = some ⟨14, ic11, [.t 4]⟩ := by kernel_rfl
def rgtX (x : Ex) (n : Int) : Bool := zhy x && decide (zbq x n = 0)
theorem zvi (x : Ex) (hs : Slim x) (n : Int) : PF Try.prog 11 [.agg (cX x), .int .i64 n] (.bool (rgtX x n)) := by
 have p17 := few17 [x] (show (1 : Nat) < 9223372036854775807 by decide) (fun y hy => by obtain rfl := List.mem_singleton.1 hy; exact hs)
 have p33 := zl8 x hs n
 unfold rgtX
 rw [List.all_cons, List.all_nil, Bool.and_true] at p17
 generalize zhy x = c at *
 generalize zbq x n = e at *
 obtain ⟨op, ix, args⟩ := x
 refine zb3 env0_ok fn11 [(0, .agg (cX (.nd op ix args))), (1, .int .i64 n)] (by show 2 ≤ 14; decide) rfl fun w0 N0 => ?_
 unfold ic11
 refine za6 (za0 rfl (zbd rfl rfl (za4 rfl (za3 (za2 ?_)))))
 refine zce [] [(0, 0, cX (.nd op ix args))] [(1, .int .i64 n), (2, .vptr (cX (.nd op ix args)))] rfl (.cons rfl rfl .nil) .nil (.cons rfl (.same rfl) (.cons rfl (.fptr rfl rfl) .nil)) ?_
 repeat (first | refine za6 ?_ | refine za0 rfl ?_ | refine zaa rfl rfl rfl rfl ?_ | refine zav rfl rfl ?_)
 refine zar rfl rfl p17 (fun _ => rfl) ?_
 cases c with
 | false =>
  repeat (first | refine za3 ?_ | refine za2 ?_ | refine zah ?_ | refine zcv rfl rfl ?_ | refine za4 rfl ?_ | refine zac rfl rfl ?_)
  exact zak ⟨.inr rfl, _, rfl, rfl⟩
 | true =>
  repeat (first | refine zc2 rfl ?_ | refine za4 rfl ?_ | refine zaa rfl rfl rfl rfl ?_)
  refine zar rfl rfl p33 (fun h => Bool.noConfusion (show false = true from h)) ?_
  repeat (first | refine zc2 rfl ?_)
  refine zaw rfl rfl rfl (fun h => ?_) fun h => ?_
  ·repeat (first | refine za3 ?_ | refine za2 ?_ | refine zah ?_ | refine za4 rfl ?_ | refine zaj rfl rfl ?_)
   exact zak ⟨.inr rfl, _, rfl, by rw [Bool.true_and, decide_eq_true (by simpa using h)]; rfl⟩
  ·repeat (first | refine za3 ?_ | refine za2 ?_ | refine zah ?_ | refine za4 rfl ?_ | refine zaj rfl rfl ?_)
   exact zak ⟨.inr rfl, _, rfl, by rw [Bool.true_and, decide_eq_false (by simpa using h)]; rfl⟩
def mxI (a b : Int) : Int := if b > a then b else a
mutual
def dpX : Ex → Int
 | .nd _ _ args => dpL 0 args + 1
def dpL (a : Int) : List Ex → Int
 | [] => a
 | y :: ys => dpL (mxI a (dpX y)) ys
end
theorem mxI_le {a b : Int} : a ≤ mxI a b ∧ b ≤ mxI a b := by unfold mxI; split <;> omega
theorem zq0 : ∀ (l : List Ex) (a : Int), a ≤ dpL a l
 | [], a => by rw [dpL]; omega
 | y :: ys, a => by
  rw [dpL]
  have := zq0 ys (mxI a (dpX y))
  have := @mxI_le a (dpX y)
  omega
theorem zod : ∀ x : Ex, 1 ≤ dpX x
 | .nd op ix args => by rw [dpX]; have := zq0 args 0; omega
theorem ztm : ∀ (l : List Ex) (a : Int), 0 ≤ a → dpL a l = mxI a (dpL 0 l)
 | [], a, h => by rw [dpL, dpL]; unfold mxI; split <;> omega
 | y :: ys, a, h => by
  have hp := zod y
  rw [dpL, dpL, ztm ys (mxI a (dpX y)) (by unfold mxI; split <;> omega), ztm ys (mxI 0 (dpX y)) (by unfold mxI; split <;> omega)]
  generalize dpL 0 ys = z at *
  unfold mxI
  repeat' split
  all_goals omega
mutual
theorem walkD : ∀ (x : Ex) (d n m : Int), 1 ≤ d → d ≤ 17 → 0 ≤ n → n + szX x ≤ 256 → zcm (17 - d).toNat x = true → zf2 zfg d x (n, m) = .inl (n + szX x, mxI m (d - 1 + dpX x))
 | .nd op ix args => fun d n m hd h17 h0 hn hb => by
  rw [szX] at hn ⊢
  rw [zf2, dpX]
  have hs0 := zbr args
  have h16 : d ≤ 16 := by
   by_cases h : d ≤ 16
   ·exact h
   ·rw [show (17 - d).toNat = 0 by omega] at hb
    simp [zcm] at hb
  rw [show (17 - d).toNat = (16 - d).toNat + 1 by omega, zd0] at hb
  have hst : zfg (n, m) d (.nd op ix args) = .inl (n + 1, zlc m d) := by
   unfold zfg
   rw [if_neg (by dsimp only; omega)]
  rw [hst]
  dsimp only
  rw [walkLD args d (n + 1) (zlc m d) hd h16 (by omega) (by omega) hb (by unfold zlc; split <;> omega), ← Int.add_assoc]
  have h1 := zq0 args 0
  generalize dpL 0 args = z at *
  have : mxI (zlc m d) (d + z) = mxI m (d - 1 + (z + 1)) := by
   unfold mxI zlc
   repeat' split
   all_goals omega
  rw [this]
theorem walkLD : ∀ (l : List Ex) (d n m : Int), 1 ≤ d → d ≤ 16 → 0 ≤ n → n + szL l ≤ 256 → l.all (zcm (16 - d).toNat) = true → d ≤ m → zfc zfg d l (n, m) = .inl (n + szL l, mxI m (d + dpL 0 l))
 | [] => fun d n m hd h16 h0 hn hb hm => by
  rw [szL, zfc, Int.add_zero, dpL]
  have : mxI m (d + 0) = m := by unfold mxI; split <;> omega
  rw [this]
 | y :: ys => fun d n m hd h16 h0 hn hb hm => by
  rw [szL] at hn ⊢
  have hp := ze0 y
  have hq := zbr ys
  rw [List.all_cons, Bool.and_eq_true] at hb
  have hy := walkD y (d + 1) n m (by omega) (by omega) h0 (by omega) (by rw [show (17 - (d + 1)).toNat = (16 - d).toNat by omega]; exact hb.1)
  rw [zfc, if_pos h16, hy]
  dsimp only
  rw [walkLD ys d (n + szX y) _ hd h16 (by omega) (by omega) hb.2 (by have := @mxI_le m (d + 1 - 1 + dpX y); omega), dpL, ← Int.add_assoc]
  have h3 := zod y
  have h4 := zq0 ys 0
  rw [ztm ys (mxI 0 (dpX y)) (by unfold mxI; split <;> omega)]
  generalize dpL 0 ys = z at *
  have : mxI (mxI m (d + 1 - 1 + dpX y)) (d + z) = mxI m (d + mxI (mxI 0 (dpX y)) z) := by
   unfold mxI
   repeat' split
   all_goals omega
  rw [this]
end
theorem zrq (x : Ex) : zgw x = if zcj x = true then .tup [.int .i64 (szX x), .int .i64 (dpX x), .bool true] else .tup [.int .i64 0, .int .i64 0, .bool false] := by
 unfold zgw
 by_cases hl : zcj x = true
 ·have h := (zcy x).1 hl
  rw [if_pos hl, walkD x 1 0 0 (by omega) (by omega) (by omega) (by omega) h.2]
  dsimp only
  have h1 := zod x
  have : mxI 0 (1 - 1 + dpX x) = dpX x := by unfold mxI; split <;> omega
  rw [this, Int.zero_add]
 ·have hw := walkM x 1 0 0 (by omega) (by omega) (by omega) (by omega)
  rw [Int.zero_add, show ((17 : Int) - 1).toNat = 16 from rfl, if_neg (fun h => hl ((zcy x).2 h))] at hw
  rw [if_neg hl, hw]
end Go.Proofs.Ytmnkjofaodbokaa
namespace Go.Proofs.Ytmnkjofaodbokaa
open Go Go.Am
theorem zox {f g : FuncId} {args bs : List AV} {v w : AV} {l : List (FuncId × List AV × AV)} (h : g ≠ f) (k : zfk l f args = some w) : zfk ((g, bs, v) :: l) f args = some w := by
 simp [zfk, h, k]
theorem zeu {op ix : Int} {args : List Ex} {y : Ex} (h : y ∈ args) : szX y ≤ szX (.nd op ix args) := by
 rw [szX]
 have : ∀ l : List Ex, y ∈ l → szX y ≤ szL l := by
  intro l
  induction l with
  | nil => intro h; cases h
  | cons a l ih =>
   intro h
   rw [szL]
   have := ze0 a
   have := zbr l
   rcases List.mem_cons.1 h with rfl | h
   ·omega
   ·have := ih h; omega
 have := this args h
 omega
end Go.Proofs.Ytmnkjofaodbokaa
namespace Go.Proofs.Ytmnkjofaodbokaa
open Go Go.Am
def b49_0 : IC := .seq (.seq (.region [⟨(some 27), .mov (.t 5), none⟩,
  ⟨(some 28), .faddr 2 (.t 2), none⟩,
  ⟨(some 29), .load none (.t 28), none⟩,
  ⟨(some 30), .len false (.t 29), none⟩,
  ⟨(some 31), .bin .lss (.t 27) (.t 30), none⟩] none)
 (.cond (.t 31) (.skip)
 (.exit 0)))
 (.seq (.block 1 (.seq (.region [⟨(some 34), .faddr 2 (.t 2), none⟩,
  ⟨(some 35), .load none (.t 34), none⟩,
  ⟨(some 36), .mov (.t 5), none⟩,
  ⟨(some 37), .idxs 3 (.t 35) (.t 36), none⟩,
  ⟨(some 38), .load (some 3) (.t 37), none⟩,
  ⟨(some 39), .faddr 2 (.t 3), none⟩,
  ⟨(some 40), .load none (.t 39), none⟩,
  ⟨(some 41), .mov (.t 5), none⟩,
  ⟨(some 42), .idxs 3 (.t 40) (.t 41), none⟩,
  ⟨(some 43), .load (some 3) (.t 42), none⟩,
  ⟨(some 44), .call (.c (.fn 49 [] [])) [(.t 38), (.t 43)], none⟩,
  ⟨(some 45), .un .not (.t 44), none⟩] (some [[], [0], [], [1, 2], [3], [], [5], [], [6, 7], [8], [4, 9], [10]]))
 (.cond (.t 45) (.seq (.region [⟨(some 4), .mov (.c (.bool false)), none⟩] none)
 (.ret))
 (.skip))))
 (.region [⟨(some 32), .mov (.t 5), none⟩,
  ⟨(some 33), .bin .add (.t 32) (.c (.int .i64 1)), none⟩,
  ⟨(some 5), .mov (.t 33), none⟩] none))
-- pneumatic/pneumaticref05.Equal
def ic49 : IC := .seq (.region [⟨(some 2), .box (.t 0), none⟩,
  ⟨(some 3), .box (.t 1), none⟩,
  ⟨(some 4), .mov (.c (.bool false)), none⟩] none)
 (.seq (.seq (.region [⟨(some 6), .faddr 0 (.t 2), none⟩,
  ⟨(some 7), .load none (.t 6), none⟩,
  ⟨(some 8), .faddr 0 (.t 3), none⟩,
  ⟨(some 9), .load none (.t 8), none⟩,
  ⟨(some 10), .bin .neq (.t 7) (.t 9), none⟩,
  ⟨(some 11), .mov (.t 10), none⟩,
  ⟨(some 12), .faddr 1 (.t 2), some (11, false)⟩,
  ⟨(some 13), .load none (.t 12), some (11, false)⟩,
  ⟨(some 14), .faddr 1 (.t 3), some (11, false)⟩,
  ⟨(some 15), .load none (.t 14), some (11, false)⟩,
  ⟨(some 16), .bin .neq (.t 13) (.t 15), some (11, false)⟩,
  ⟨(some 17), .pick (.t 11) (.c (.bool true)) (.t 16), none⟩,
  ⟨(some 18), .mov (.t 17), none⟩,
  ⟨(some 19), .faddr 2 (.t 2), some (18, false)⟩,
  ⟨(some 20), .load none (.t 19), some (18, false)⟩,
  ⟨(some 21), .len false (.t 20), some (18, false)⟩,
  ⟨(some 22), .faddr 2 (.t 3), some (18, false)⟩,
  ⟨(some 23), .load none (.t 22), some (18, false)⟩,
  ⟨(some 24), .len false (.t 23), some (18, false)⟩,
  ⟨(some 25), .bin .neq (.t 21) (.t 24), some (18, false)⟩,
  ⟨(some 26), .pick (.t 18) (.c (.bool true)) (.t 25), none⟩] none)
 (.cond (.t 26) (.seq (.region [⟨(some 4), .mov (.c (.bool false)), none⟩] none)
 (.ret))
 (.skip)))
 (.seq (.seq (.region [⟨(some 5), .mov (.c (.int .i64 0)), none⟩] none)
 (.block 0 (.loop b49_0)))
 (.seq (.region [⟨(some 4), .mov (.c (.bool true)), none⟩] none)
 (.ret))))
theorem fn49 : env0.fn 49 = some ⟨46, ic49, [.t 4]⟩ := by kernel_rfl
mutual
def eqX : Ex → Ex → Bool
 | .nd o i a, .nd o' i' b => o == o' && (i == i' && zk3 a b)
def zk3 : List Ex → List Ex → Bool
 | [], [] => true
 | x :: xs, y :: ys => eqX x y && zk3 xs ys
 | [], _ :: _ => false
 | _ :: _, [] => false
end
theorem zle : ∀ {a b : List Ex}, a.length ≠ b.length → zk3 a b = false
 | [], [], h => absurd rfl h
 | [], _ :: _, _ => by rw [zk3]
 | _ :: _, [], _ => by rw [zk3]
 | x :: xs, y :: ys, h => by
  rw [zk3, zle (fun e => h (by rw [List.length_cons, List.length_cons, e])), Bool.and_false]
theorem zmv {a b : List Ex} {i : Nat} (h : i < a.length) (k : i < b.length) : zk3 (a.drop i) (b.drop i) = (eqX a[i] b[i] && zk3 (a.drop (i + 1)) (b.drop (i + 1))) := by
 rw [List.drop_eq_getElem_cons h, List.drop_eq_getElem_cons k, zk3]
set_option maxHeartbeats 4000000 in
theorem zof : ∀ (q : Nat) (x y : Ex), SizeOf.sizeOf x ≤ q → Slim x → PF Try.prog 49 [.agg (cX x), .agg (cX y)] (.bool (eqX x y)) := by
 intro q
 induction q with
 | zero => intro x y hq; cases x; simp at hq
 | succ q ih =>
  intro x y hq hs
  obtain ⟨op, ix, args⟩ := x
  obtain ⟨op2, ix2, args2⟩ := y
  obtain ⟨hlen, hsl⟩ := zh5 hs
  refine zb3 env0_ok fn49 [(0, .agg (cX (.nd op ix args))), (1, .agg (cX (.nd op2 ix2 args2)))] (by show 2 ≤ 46; decide) rfl fun w0 N0 => ?_
  unfold ic49
  rw [eqX]
  refine za6 (za0 rfl (zbd rfl rfl (zbd rfl rfl (za4 rfl (za3 (za2 ?_))))))
  refine zce [] [(0, 0, cX (.nd op ix args)), (1, 1, cX (.nd op2 ix2 args2))] [(2, .vptr (cX (.nd op ix args))), (3, .vptr (cX (.nd op2 ix2 args2)))] rfl (.cons rfl rfl (.cons rfl rfl .nil)) .nil (.cons rfl (.fptr rfl rfl) (.cons rfl (.fptr rfl rfl) .nil)) ?_
  repeat (first | refine za6 ?_ | refine za0 rfl ?_ | refine za3 ?_ | refine za2 ?_ | refine zbk ?_ | refine zal ?_ | refine zae ?_ | refine zbg rfl ?_ | refine zbl rfl ?_ | refine zb8 ?_ | refine zah ?_ | refine zb7 ?_ | refine zaf ?_ | refine zaq rfl ?_ | refine za5 ?_ | refine zad ?_ | refine zc2 rfl ?_ | refine zcv rfl rfl ?_ | refine zf8 rfl ?_ | refine za4 rfl ?_ | refine zai rfl rfl ?_ | refine zaa rfl rfl rfl rfl ?_ | refine za8 rfl rfl rfl rfl rfl rfl rfl ?_ | refine za9 rfl ?_ | refine zap rfl rfl rfl ?_ | refine zag rfl rfl rfl ?_ | refine zb1 rfl rfl rfl rfl ?_ | refine zam ?_ | refine zaj rfl rfl ?_ | refine zac rfl rfl ?_ | refine zd2 rfl rfl ?_ | refine zbf rfl rfl ?_ | refine zb0 rfl rfl ?_ | refine zav rfl rfl ?_ | refine zbd rfl rfl ?_ | refine zay rfl rfl rfl ?_ | refine zbj rfl rfl ?_ | refine zb9 rfl rfl rfl rfl ?_ | refine zau rfl rfl rfl rfl ?_ | refine zbb rfl rfl rfl rfl ?_ | refine zc8 rfl rfl ?_ | refine zbt rfl rfl ?_ | refine zas rfl rfl ?_ | refine zc9 ?_ | refine zbc env0_ok rfl rfl rfl ?_ | refine zaz (op := .add) rfl rfl rfl ?_ | refine zaz (op := .sub) rfl rfl rfl ?_ | refine zc7 rfl rfl rfl ?_ | refine zc6 rfl rfl rfl ?_ | refine zbe rfl rfl rfl ?_ | refine zb5 rfl rfl rfl ?_ | refine zb4 rfl rfl (by omega) (by assumption) rfl ?_ | refine zag rfl rfl (decide_eq_true ⟨by omega, by omega⟩) ?_ | refine zbn rfl rfl (by omega) (by omega) ?_ | refine zba rfl rfl rfl ?_ | refine zcb rfl ?_ | refine zca rfl ?_)
  refine zaw rfl rfl rfl (fun h1 => ?_) fun h1 => ?_
  ·have h1 : ¬ op = op2 := by simpa using h1
   rw [show (op == op2) = false from beq_eq_false_iff_ne.2 h1]
   repeat (first | refine za6 ?_ | refine za0 rfl ?_ | refine za3 ?_ | refine za2 ?_ | refine zbk ?_ | refine zal ?_ | refine zae ?_ | refine zbg rfl ?_ | refine zbl rfl ?_ | refine zb8 ?_ | refine zah ?_ | refine zb7 ?_ | refine zaf ?_ | refine zaq rfl ?_ | refine za5 ?_ | refine zad ?_ | refine zc2 rfl ?_ | refine zcv rfl rfl ?_ | refine zf8 rfl ?_ | refine za4 rfl ?_ | refine zai rfl rfl ?_ | refine zaa rfl rfl rfl rfl ?_ | refine za8 rfl rfl rfl rfl rfl rfl rfl ?_ | refine za9 rfl ?_ | refine zap rfl rfl rfl ?_ | refine zag rfl rfl rfl ?_ | refine zb1 rfl rfl rfl rfl ?_ | refine zam ?_ | refine zaj rfl rfl ?_ | refine zac rfl rfl ?_ | refine zd2 rfl rfl ?_ | refine zbf rfl rfl ?_ | refine zb0 rfl rfl ?_ | refine zav rfl rfl ?_ | refine zbd rfl rfl ?_ | refine zay rfl rfl rfl ?_ | refine zbj rfl rfl ?_ | refine zb9 rfl rfl rfl rfl ?_ | refine zau rfl rfl rfl rfl ?_ | refine zbb rfl rfl rfl rfl ?_ | refine zc8 rfl rfl ?_ | refine zbt rfl rfl ?_ | refine zas rfl rfl ?_ | refine zc9 ?_ | refine zbc env0_ok rfl rfl rfl ?_ | refine zaz (op := .add) rfl rfl rfl ?_ | refine zaz (op := .sub) rfl rfl rfl ?_ | refine zc7 rfl rfl rfl ?_ | refine zc6 rfl rfl rfl ?_ | refine zbe rfl rfl rfl ?_ | refine zb5 rfl rfl rfl ?_ | refine zb4 rfl rfl (by omega) (by assumption) rfl ?_ | refine zag rfl rfl (decide_eq_true ⟨by omega, by omega⟩) ?_ | refine zbn rfl rfl (by omega) (by omega) ?_ | refine zba rfl rfl rfl ?_ | refine zcb rfl ?_ | refine zca rfl ?_)
   exact zak ⟨.inr rfl, _, rfl, rfl⟩
  have h1 : op = op2 := by simpa using h1
  rw [show (op == op2) = true from beq_iff_eq.2 h1, Bool.true_and]
  repeat (first | refine za6 ?_ | refine za0 rfl ?_ | refine za3 ?_ | refine za2 ?_ | refine zbk ?_ | refine zal ?_ | refine zae ?_ | refine zbg rfl ?_ | refine zbl rfl ?_ | refine zb8 ?_ | refine zah ?_ | refine zb7 ?_ | refine zaf ?_ | refine zaq rfl ?_ | refine za5 ?_ | refine zad ?_ | refine zc2 rfl ?_ | refine zcv rfl rfl ?_ | refine zf8 rfl ?_ | refine za4 rfl ?_ | refine zai rfl rfl ?_ | refine zaa rfl rfl rfl rfl ?_ | refine za8 rfl rfl rfl rfl rfl rfl rfl ?_ | refine za9 rfl ?_ | refine zap rfl rfl rfl ?_ | refine zag rfl rfl rfl ?_ | refine zb1 rfl rfl rfl rfl ?_ | refine zam ?_ | refine zaj rfl rfl ?_ | refine zac rfl rfl ?_ | refine zd2 rfl rfl ?_ | refine zbf rfl rfl ?_ | refine zb0 rfl rfl ?_ | refine zav rfl rfl ?_ | refine zbd rfl rfl ?_ | refine zay rfl rfl rfl ?_ | refine zbj rfl rfl ?_ | refine zb9 rfl rfl rfl rfl ?_ | refine zau rfl rfl rfl rfl ?_ | refine zbb rfl rfl rfl rfl ?_ | refine zc8 rfl rfl ?_ | refine zbt rfl rfl ?_ | refine zas rfl rfl ?_ | refine zc9 ?_ | refine zbc env0_ok rfl rfl rfl ?_ | refine zaz (op := .add) rfl rfl rfl ?_ | refine zaz (op := .sub) rfl rfl rfl ?_ | refine zc7 rfl rfl rfl ?_ | refine zc6 rfl rfl rfl ?_ | refine zbe rfl rfl rfl ?_ | refine zb5 rfl rfl rfl ?_ | refine zb4 rfl rfl (by omega) (by assumption) rfl ?_ | refine zag rfl rfl (decide_eq_true ⟨by omega, by omega⟩) ?_ | refine zbn rfl rfl (by omega) (by omega) ?_ | refine zba rfl rfl rfl ?_ | refine zcb rfl ?_ | refine zca rfl ?_)
  refine zaw rfl rfl rfl (fun h2 => ?_) fun h2 => ?_
  ·have h2 : ¬ ix = ix2 := by simpa using h2
   rw [show (ix == ix2) = false from beq_eq_false_iff_ne.2 h2]
   repeat (first | refine za6 ?_ | refine za0 rfl ?_ | refine za3 ?_ | refine za2 ?_ | refine zbk ?_ | refine zal ?_ | refine zae ?_ | refine zbg rfl ?_ | refine zbl rfl ?_ | refine zb8 ?_ | refine zah ?_ | refine zb7 ?_ | refine zaf ?_ | refine zaq rfl ?_ | refine za5 ?_ | refine zad ?_ | refine zc2 rfl ?_ | refine zcv rfl rfl ?_ | refine zf8 rfl ?_ | refine za4 rfl ?_ | refine zai rfl rfl ?_ | refine zaa rfl rfl rfl rfl ?_ | refine za8 rfl rfl rfl rfl rfl rfl rfl ?_ | refine za9 rfl ?_ | refine zap rfl rfl rfl ?_ | refine zag rfl rfl rfl ?_ | refine zb1 rfl rfl rfl rfl ?_ | refine zam ?_ | refine zaj rfl rfl ?_ | refine zac rfl rfl ?_ | refine zd2 rfl rfl ?_ | refine zbf rfl rfl ?_ | refine zb0 rfl rfl ?_ | refine zav rfl rfl ?_ | refine zbd rfl rfl ?_ | refine zay rfl rfl rfl ?_ | refine zbj rfl rfl ?_ | refine zb9 rfl rfl rfl rfl ?_ | refine zau rfl rfl rfl rfl ?_ | refine zbb rfl rfl rfl rfl ?_ | refine zc8 rfl rfl ?_ | refine zbt rfl rfl ?_ | refine zas rfl rfl ?_ | refine zc9 ?_ | refine zbc env0_ok rfl rfl rfl ?_ | refine zaz (op := .add) rfl rfl rfl ?_ | refine zaz (op := .sub) rfl rfl rfl ?_ | refine zc7 rfl rfl rfl ?_ | refine zc6 rfl rfl rfl ?_ | refine zbe rfl rfl rfl ?_ | refine zb5 rfl rfl rfl ?_ | refine zb4 rfl rfl (by omega) (by assumption) rfl ?_ | refine zag rfl rfl (decide_eq_true ⟨by omega, by omega⟩) ?_ | refine zbn rfl rfl (by omega) (by omega) ?_ | refine zba rfl rfl rfl ?_ | refine zcb rfl ?_ | refine zca rfl ?_)
   exact zak ⟨.inr rfl, _, rfl, rfl⟩
  have h2 : ix = ix2 := by simpa using h2
  rw [show (ix == ix2) = true from beq_iff_eq.2 h2, Bool.true_and]
  repeat (first | refine za6 ?_ | refine za0 rfl ?_ | refine za3 ?_ | refine za2 ?_ | refine zbk ?_ | refine zal ?_ | refine zae ?_ | refine zbg rfl ?_ | refine zbl rfl ?_ | refine zb8 ?_ | refine zah ?_ | refine zb7 ?_ | refine zaf ?_ | refine zaq rfl ?_ | refine za5 ?_ | refine zad ?_ | refine zc2 rfl ?_ | refine zcv rfl rfl ?_ | refine zf8 rfl ?_ | refine za4 rfl ?_ | refine zai rfl rfl ?_ | refine zaa rfl rfl rfl rfl ?_ | refine za8 rfl rfl rfl rfl rfl rfl rfl ?_ | refine za9 rfl ?_ | refine zap rfl rfl rfl ?_ | refine zag rfl rfl rfl ?_ | refine zb1 rfl rfl rfl rfl ?_ | refine zam ?_ | refine zaj rfl rfl ?_ | refine zac rfl rfl ?_ | refine zd2 rfl rfl ?_ | refine zbf rfl rfl ?_ | refine zb0 rfl rfl ?_ | refine zav rfl rfl ?_ | refine zbd rfl rfl ?_ | refine zay rfl rfl rfl ?_ | refine zbj rfl rfl ?_ | refine zb9 rfl rfl rfl rfl ?_ | refine zau rfl rfl rfl rfl ?_ | refine zbb rfl rfl rfl rfl ?_ | refine zc8 rfl rfl ?_ | refine zbt rfl rfl ?_ | refine zas rfl rfl ?_ | refine zc9 ?_ | refine zbc env0_ok rfl rfl rfl ?_ | refine zaz (op := .add) rfl rfl rfl ?_ | refine zaz (op := .sub) rfl rfl rfl ?_ | refine zc7 rfl rfl rfl ?_ | refine zc6 rfl rfl rfl ?_ | refine zbe rfl rfl rfl ?_ | refine zb5 rfl rfl rfl ?_ | refine zb4 rfl rfl (by omega) (by assumption) rfl ?_ | refine zag rfl rfl (decide_eq_true ⟨by omega, by omega⟩) ?_ | refine zbn rfl rfl (by omega) (by omega) ?_ | refine zba rfl rfl rfl ?_ | refine zcb rfl ?_ | refine zca rfl ?_)
  refine zaw rfl rfl rfl (fun h3 => ?_) fun h3 => ?_
  ·have h3 : ¬ (((cXs args).length : Nat) : Int) = (((cXs args2).length : Nat) : Int) := by simpa using h3
   rw [zan, zan] at h3
   rw [zle (fun e => h3 (by rw [e]))]
   repeat (first | refine za6 ?_ | refine za0 rfl ?_ | refine za3 ?_ | refine za2 ?_ | refine zbk ?_ | refine zal ?_ | refine zae ?_ | refine zbg rfl ?_ | refine zbl rfl ?_ | refine zb8 ?_ | refine zah ?_ | refine zb7 ?_ | refine zaf ?_ | refine zaq rfl ?_ | refine za5 ?_ | refine zad ?_ | refine zc2 rfl ?_ | refine zcv rfl rfl ?_ | refine zf8 rfl ?_ | refine za4 rfl ?_ | refine zai rfl rfl ?_ | refine zaa rfl rfl rfl rfl ?_ | refine za8 rfl rfl rfl rfl rfl rfl rfl ?_ | refine za9 rfl ?_ | refine zap rfl rfl rfl ?_ | refine zag rfl rfl rfl ?_ | refine zb1 rfl rfl rfl rfl ?_ | refine zam ?_ | refine zaj rfl rfl ?_ | refine zac rfl rfl ?_ | refine zd2 rfl rfl ?_ | refine zbf rfl rfl ?_ | refine zb0 rfl rfl ?_ | refine zav rfl rfl ?_ | refine zbd rfl rfl ?_ | refine zay rfl rfl rfl ?_ | refine zbj rfl rfl ?_ | refine zb9 rfl rfl rfl rfl ?_ | refine zau rfl rfl rfl rfl ?_ | refine zbb rfl rfl rfl rfl ?_ | refine zc8 rfl rfl ?_ | refine zbt rfl rfl ?_ | refine zas rfl rfl ?_ | refine zc9 ?_ | refine zbc env0_ok rfl rfl rfl ?_ | refine zaz (op := .add) rfl rfl rfl ?_ | refine zaz (op := .sub) rfl rfl rfl ?_ | refine zc7 rfl rfl rfl ?_ | refine zc6 rfl rfl rfl ?_ | refine zbe rfl rfl rfl ?_ | refine zb5 rfl rfl rfl ?_ | refine zb4 rfl rfl (by omega) (by assumption) rfl ?_ | refine zag rfl rfl (decide_eq_true ⟨by omega, by omega⟩) ?_ | refine zbn rfl rfl (by omega) (by omega) ?_ | refine zba rfl rfl rfl ?_ | refine zcb rfl ?_ | refine zca rfl ?_)
   exact zak ⟨.inr rfl, _, rfl, rfl⟩
  have h3 : args.length = args2.length := by
   have h3 : (((cXs args).length : Nat) : Int) = (((cXs args2).length : Nat) : Int) := by simpa using h3
   rw [zan, zan] at h3
   omega
  repeat (first | refine za6 ?_ | refine za0 rfl ?_ | refine za3 ?_ | refine za2 ?_ | refine zbk ?_ | refine zal ?_ | refine zae ?_ | refine zbg rfl ?_ | refine zbl rfl ?_ | refine zb8 ?_ | refine zah ?_ | refine zb7 ?_ | refine zaf ?_ | refine zaq rfl ?_ | refine za5 ?_ | refine zad ?_ | refine zc2 rfl ?_ | refine zcv rfl rfl ?_ | refine zf8 rfl ?_ | refine za4 rfl ?_ | refine zai rfl rfl ?_ | refine zaa rfl rfl rfl rfl ?_ | refine za8 rfl rfl rfl rfl rfl rfl rfl ?_ | refine za9 rfl ?_ | refine zap rfl rfl rfl ?_ | refine zag rfl rfl rfl ?_ | refine zb1 rfl rfl rfl rfl ?_ | refine zam ?_ | refine zaj rfl rfl ?_ | refine zac rfl rfl ?_ | refine zd2 rfl rfl ?_ | refine zbf rfl rfl ?_ | refine zb0 rfl rfl ?_ | refine zav rfl rfl ?_ | refine zbd rfl rfl ?_ | refine zay rfl rfl rfl ?_ | refine zbj rfl rfl ?_ | refine zb9 rfl rfl rfl rfl ?_ | refine zau rfl rfl rfl rfl ?_ | refine zbb rfl rfl rfl rfl ?_ | refine zc8 rfl rfl ?_ | refine zbt rfl rfl ?_ | refine zas rfl rfl ?_ | refine zc9 ?_ | refine zbc env0_ok rfl rfl rfl ?_ | refine zaz (op := .add) rfl rfl rfl ?_ | refine zaz (op := .sub) rfl rfl rfl ?_ | refine zc7 rfl rfl rfl ?_ | refine zc6 rfl rfl rfl ?_ | refine zbe rfl rfl rfl ?_ | refine zb5 rfl rfl rfl ?_ | refine zb4 rfl rfl (by omega) (by assumption) rfl ?_ | refine zag rfl rfl (decide_eq_true ⟨by omega, by omega⟩) ?_ | refine zbn rfl rfl (by omega) (by omega) ?_ | refine zba rfl rfl rfl ?_ | refine zcb rfl ?_ | refine zca rfl ?_)
  refine zd9 (fun mm S => ∃ i, mm = args.length - i ∧ i ≤ args.length ∧ zk3 args args2 = zk3 (args.drop i) (args2.drop i) ∧
    S = st 46 [(2, .vptr (cX (.nd op ix args))), (3, .vptr (cX (.nd op2 ix2 args2))), (5, .int .i64 (i : Nat))] [] 0 1) args.length
   (zat (.cons rfl (.cons rfl (.cons rfl .nil)))) ⟨0, rfl, Nat.zero_le _, rfl, rfl⟩ ?_
  rintro mm S ⟨i, rfl, hi, hall, rfl⟩
  unfold b49_0
  repeat (first | refine za6 ?_ | refine za0 rfl ?_ | refine za3 ?_ | refine za2 ?_ | refine zbk ?_ | refine zal ?_ | refine zae ?_ | refine zbg rfl ?_ | refine zbl rfl ?_ | refine zb8 ?_ | refine zah ?_ | refine zb7 ?_ | refine zaf ?_ | refine zaq rfl ?_ | refine za5 ?_ | refine zad ?_ | refine zc2 rfl ?_ | refine zcv rfl rfl ?_ | refine zf8 rfl ?_ | refine za4 rfl ?_ | refine zai rfl rfl ?_ | refine zaa rfl rfl rfl rfl ?_ | refine za8 rfl rfl rfl rfl rfl rfl rfl ?_ | refine za9 rfl ?_ | refine zap rfl rfl rfl ?_ | refine zag rfl rfl rfl ?_ | refine zb1 rfl rfl rfl rfl ?_ | refine zam ?_ | refine zaj rfl rfl ?_ | refine zac rfl rfl ?_ | refine zd2 rfl rfl ?_ | refine zbf rfl rfl ?_ | refine zb0 rfl rfl ?_ | refine zav rfl rfl ?_ | refine zbd rfl rfl ?_ | refine zay rfl rfl rfl ?_ | refine zbj rfl rfl ?_ | refine zb9 rfl rfl rfl rfl ?_ | refine zau rfl rfl rfl rfl ?_ | refine zbb rfl rfl rfl rfl ?_ | refine zc8 rfl rfl ?_ | refine zbt rfl rfl ?_ | refine zas rfl rfl ?_ | refine zc9 ?_ | refine zbc env0_ok rfl rfl rfl ?_ | refine zaz (op := .add) rfl rfl rfl ?_ | refine zaz (op := .sub) rfl rfl rfl ?_ | refine zc7 rfl rfl rfl ?_ | refine zc6 rfl rfl rfl ?_ | refine zbe rfl rfl rfl ?_ | refine zb5 rfl rfl rfl ?_ | refine zb4 rfl rfl (by omega) (by assumption) rfl ?_ | refine zag rfl rfl (decide_eq_true ⟨by omega, by omega⟩) ?_ | refine zbn rfl rfl (by omega) (by omega) ?_ | refine zba rfl rfl rfl ?_ | refine zcb rfl ?_ | refine zca rfl ?_)
  refine zaw rfl rfl rfl (fun h4 => ?_) fun h4 => ?_
  ·have hlt : i < args.length := by
    have := of_decide_eq_true h4
    rw [zan] at this
    omega
   have hlt2 : i < args2.length := by omega
   rw [zmv hlt hlt2] at hall
   have hge := zcg hlt
   have hge2 := zcg hlt2
   have hmem : args[i] ∈ args := List.getElem_mem hlt
   have py := ih args[i] args2[i] (by have := zed (op := op) (ix := ix) hmem; omega) (hsl _ hmem)
   generalize args[i] = y at *
   generalize args2[i] = y2 at *
   generalize eqX y y2 = b at *
   obtain ⟨yo, yi, ya⟩ := y
   obtain ⟨zo, zi, za⟩ := y2
   repeat (first | refine za6 ?_ | refine za0 rfl ?_ | refine za3 ?_ | refine za2 ?_ | refine zbk ?_ | refine zal ?_ | refine zae ?_ | refine zbg rfl ?_ | refine zbl rfl ?_ | refine zb8 ?_ | refine zah ?_ | refine zb7 ?_ | refine zaf ?_ | refine zaq rfl ?_ | refine za5 ?_ | refine zad ?_ | refine zc2 rfl ?_ | refine zcv rfl rfl ?_ | refine zf8 rfl ?_ | refine za4 rfl ?_ | refine zai rfl rfl ?_ | refine zaa rfl rfl rfl rfl ?_ | refine za8 rfl rfl rfl rfl rfl rfl rfl ?_ | refine za9 rfl ?_ | refine zap rfl rfl rfl ?_ | refine zag rfl rfl rfl ?_ | refine zb1 rfl rfl rfl rfl ?_ | refine zam ?_ | refine zaj rfl rfl ?_ | refine zac rfl rfl ?_ | refine zd2 rfl rfl ?_ | refine zbf rfl rfl ?_ | refine zb0 rfl rfl ?_ | refine zav rfl rfl ?_ | refine zbd rfl rfl ?_ | refine zay rfl rfl rfl ?_ | refine zbj rfl rfl ?_ | refine zb9 rfl rfl rfl rfl ?_ | refine zau rfl rfl rfl rfl ?_ | refine zbb rfl rfl rfl rfl ?_ | refine zc8 rfl rfl ?_ | refine zbt rfl rfl ?_ | refine zas rfl rfl ?_ | refine zc9 ?_ | refine zaz (op := .add) rfl rfl rfl ?_ | refine zaz (op := .sub) rfl rfl rfl ?_ | refine zc7 rfl rfl rfl ?_ | refine zc6 rfl rfl rfl ?_ | refine zbe rfl rfl rfl ?_ | refine zb5 rfl rfl rfl ?_ | refine zb4 rfl rfl (by omega) (by assumption) rfl ?_ | refine zag rfl rfl (decide_eq_true ⟨by omega, by omega⟩) ?_ | refine zbn rfl rfl (by omega) (by omega) ?_ | refine zba rfl rfl rfl ?_ | refine zcb rfl ?_ | refine zca rfl ?_)
   refine zev env0_ok [(49, [.agg (cX (.nd yo yi ya)), .agg (cX (.nd zo zi za))], .bool b)] (fun x hx => by
    obtain rfl := List.mem_singleton.1 hx
    exact py) (fun f => Nat.beq f 49) rfl rfl rfl ?_
   repeat (first | refine za6 ?_ | refine za0 rfl ?_ | refine za3 ?_ | refine za2 ?_ | refine zbk ?_ | refine zal ?_ | refine zae ?_ | refine zbg rfl ?_ | refine zbl rfl ?_ | refine zb8 ?_ | refine zah ?_ | refine zb7 ?_ | refine zaf ?_ | refine zaq rfl ?_ | refine za5 ?_ | refine zad ?_ | refine zc2 rfl ?_ | refine zcv rfl rfl ?_ | refine zf8 rfl ?_ | refine za4 rfl ?_ | refine zai rfl rfl ?_ | refine zaa rfl rfl rfl rfl ?_ | refine za8 rfl rfl rfl rfl rfl rfl rfl ?_ | refine za9 rfl ?_ | refine zap rfl rfl rfl ?_ | refine zag rfl rfl rfl ?_ | refine zb1 rfl rfl rfl rfl ?_ | refine zam ?_ | refine zaj rfl rfl ?_ | refine zac rfl rfl ?_ | refine zd2 rfl rfl ?_ | refine zbf rfl rfl ?_ | refine zb0 rfl rfl ?_ | refine zav rfl rfl ?_ | refine zbd rfl rfl ?_ | refine zay rfl rfl rfl ?_ | refine zbj rfl rfl ?_ | refine zb9 rfl rfl rfl rfl ?_ | refine zau rfl rfl rfl rfl ?_ | refine zbb rfl rfl rfl rfl ?_ | refine zc8 rfl rfl ?_ | refine zbt rfl rfl ?_ | refine zas rfl rfl ?_ | refine zc9 ?_ | refine zbc env0_ok rfl rfl rfl ?_ | refine zaz (op := .add) rfl rfl rfl ?_ | refine zaz (op := .sub) rfl rfl rfl ?_ | refine zc7 rfl rfl rfl ?_ | refine zc6 rfl rfl rfl ?_ | refine zbe rfl rfl rfl ?_ | refine zb5 rfl rfl rfl ?_ | refine zb4 rfl rfl (by omega) (by assumption) rfl ?_ | refine zag rfl rfl (decide_eq_true ⟨by omega, by omega⟩) ?_ | refine zbn rfl rfl (by omega) (by omega) ?_ | refine zba rfl rfl rfl ?_ | refine zcb rfl ?_ | refine zca rfl ?_)
   refine zar rfl rfl zci (fun h => Bool.noConfusion (show false = true from h)) ?_
   cases b with
   | false =>
    rw [Bool.false_and] at hall
    repeat (first | refine za6 ?_ | refine za0 rfl ?_ | refine za3 ?_ | refine za2 ?_ | refine zbk ?_ | refine zal ?_ | refine zae ?_ | refine zbg rfl ?_ | refine zbl rfl ?_ | refine zb8 ?_ | refine zah ?_ | refine zb7 ?_ | refine zaf ?_ | refine zaq rfl ?_ | refine za5 ?_ | refine zad ?_ | refine zc2 rfl ?_ | refine zcv rfl rfl ?_ | refine zf8 rfl ?_ | refine za4 rfl ?_ | refine zai rfl rfl ?_ | refine zaa rfl rfl rfl rfl ?_ | refine za8 rfl rfl rfl rfl rfl rfl rfl ?_ | refine za9 rfl ?_ | refine zap rfl rfl rfl ?_ | refine zag rfl rfl rfl ?_ | refine zb1 rfl rfl rfl rfl ?_ | refine zam ?_ | refine zaj rfl rfl ?_ | refine zac rfl rfl ?_ | refine zd2 rfl rfl ?_ | refine zbf rfl rfl ?_ | refine zb0 rfl rfl ?_ | refine zav rfl rfl ?_ | refine zbd rfl rfl ?_ | refine zay rfl rfl rfl ?_ | refine zbj rfl rfl ?_ | refine zb9 rfl rfl rfl rfl ?_ | refine zau rfl rfl rfl rfl ?_ | refine zbb rfl rfl rfl rfl ?_ | refine zc8 rfl rfl ?_ | refine zbt rfl rfl ?_ | refine zas rfl rfl ?_ | refine zc9 ?_ | refine zbc env0_ok rfl rfl rfl ?_ | refine zaz (op := .add) rfl rfl rfl ?_ | refine zaz (op := .sub) rfl rfl rfl ?_ | refine zc7 rfl rfl rfl ?_ | refine zc6 rfl rfl rfl ?_ | refine zbe rfl rfl rfl ?_ | refine zb5 rfl rfl rfl ?_ | refine zb4 rfl rfl (by omega) (by assumption) rfl ?_ | refine zag rfl rfl (decide_eq_true ⟨by omega, by omega⟩) ?_ | refine zbn rfl rfl (by omega) (by omega) ?_ | refine zba rfl rfl rfl ?_ | refine zcb rfl ?_ | refine zca rfl ?_)
    exact zak ⟨.inr rfl, _, rfl, by rw [hall]; rfl⟩
   | true =>
    rw [Bool.true_and] at hall
    repeat (first | refine za6 ?_ | refine za0 rfl ?_ | refine za3 ?_ | refine za2 ?_ | refine zbk ?_ | refine zal ?_ | refine zae ?_ | refine zbg rfl ?_ | refine zbl rfl ?_ | refine zb8 ?_ | refine zah ?_ | refine zb7 ?_ | refine zaf ?_ | refine zaq rfl ?_ | refine za5 ?_ | refine zad ?_ | refine zc2 rfl ?_ | refine zcv rfl rfl ?_ | refine zf8 rfl ?_ | refine za4 rfl ?_ | refine zai rfl rfl ?_ | refine zaa rfl rfl rfl rfl ?_ | refine za8 rfl rfl rfl rfl rfl rfl rfl ?_ | refine za9 rfl ?_ | refine zap rfl rfl rfl ?_ | refine zag rfl rfl rfl ?_ | refine zb1 rfl rfl rfl rfl ?_ | refine zam ?_ | refine zaj rfl rfl ?_ | refine zac rfl rfl ?_ | refine zd2 rfl rfl ?_ | refine zbf rfl rfl ?_ | refine zb0 rfl rfl ?_ | refine zav rfl rfl ?_ | refine zbd rfl rfl ?_ | refine zay rfl rfl rfl ?_ | refine zbj rfl rfl ?_ | refine zb9 rfl rfl rfl rfl ?_ | refine zau rfl rfl rfl rfl ?_ | refine zbb rfl rfl rfl rfl ?_ | refine zc8 rfl rfl ?_ | refine zbt rfl rfl ?_ | refine zas rfl rfl ?_ | refine zc9 ?_ | refine zbc env0_ok rfl rfl rfl ?_ | refine zaz (op := .add) rfl rfl rfl ?_ | refine zaz (op := .sub) rfl rfl rfl ?_ | refine zc7 rfl rfl rfl ?_ | refine zc6 rfl rfl rfl ?_ | refine zbe rfl rfl rfl ?_ | refine zb5 rfl rfl rfl ?_ | refine zb4 rfl rfl (by omega) (by assumption) rfl ?_ | refine zag rfl rfl (decide_eq_true ⟨by omega, by omega⟩) ?_ | refine zbn rfl rfl (by omega) (by omega) ?_ | refine zba rfl rfl rfl ?_ | refine zcb rfl ?_ | refine zca rfl ?_)
    rw [zbo i (by omega)]
    exact zbz (show args.length - (i + 1) < args.length - i by omega) (zat (.cons rfl (.cons rfl (.cons rfl .nil)))) ⟨i + 1, rfl, hlt, hall, rfl⟩
  ·have hi2 : i = args.length := by
    have := of_decide_eq_false h4
    rw [zan] at this
    omega
   rw [List.drop_of_length_le (by omega), List.drop_of_length_le (by omega), zk3] at hall
   repeat (first | refine za6 ?_ | refine za0 rfl ?_ | refine za3 ?_ | refine za2 ?_ | refine zbk ?_ | refine zal ?_ | refine zae ?_ | refine zbg rfl ?_ | refine zbl rfl ?_ | refine zb8 ?_ | refine zah ?_ | refine zb7 ?_ | refine zaf ?_ | refine zaq rfl ?_ | refine za5 ?_ | refine zad ?_ | refine zc2 rfl ?_ | refine zcv rfl rfl ?_ | refine zf8 rfl ?_ | refine za4 rfl ?_ | refine zai rfl rfl ?_ | refine zaa rfl rfl rfl rfl ?_ | refine za8 rfl rfl rfl rfl rfl rfl rfl ?_ | refine za9 rfl ?_ | refine zap rfl rfl rfl ?_ | refine zag rfl rfl rfl ?_ | refine zb1 rfl rfl rfl rfl ?_ | refine zam ?_ | refine zaj rfl rfl ?_ | refine zac rfl rfl ?_ | refine zd2 rfl rfl ?_ | refine zbf rfl rfl ?_ | refine zb0 rfl rfl ?_ | refine zav rfl rfl ?_ | refine zbd rfl rfl ?_ | refine zay rfl rfl rfl ?_ | refine zbj rfl rfl ?_ | refine zb9 rfl rfl rfl rfl ?_ | refine zau rfl rfl rfl rfl ?_ | refine zbb rfl rfl rfl rfl ?_ | refine zc8 rfl rfl ?_ | refine zbt rfl rfl ?_ | refine zas rfl rfl ?_ | refine zc9 ?_ | refine zbc env0_ok rfl rfl rfl ?_ | refine zaz (op := .add) rfl rfl rfl ?_ | refine zaz (op := .sub) rfl rfl rfl ?_ | refine zc7 rfl rfl rfl ?_ | refine zc6 rfl rfl rfl ?_ | refine zbe rfl rfl rfl ?_ | refine zb5 rfl rfl rfl ?_ | refine zb4 rfl rfl (by omega) (by assumption) rfl ?_ | refine zag rfl rfl (decide_eq_true ⟨by omega, by omega⟩) ?_ | refine zbn rfl rfl (by omega) (by omega) ?_ | refine zba rfl rfl rfl ?_ | refine zcb rfl ?_ | refine zca rfl ?_)
   refine zdq ?_
   repeat (first | refine za6 ?_ | refine za0 rfl ?_ | refine za3 ?_ | refine za2 ?_ | refine zbk ?_ | refine zal ?_ | refine zae ?_ | refine zbg rfl ?_ | refine zbl rfl ?_ | refine zb8 ?_ | refine zah ?_ | refine zb7 ?_ | refine zaf ?_ | refine zaq rfl ?_ | refine za5 ?_ | refine zad ?_ | refine zc2 rfl ?_ | refine zcv rfl rfl ?_ | refine zf8 rfl ?_ | refine za4 rfl ?_ | refine zai rfl rfl ?_ | refine zaa rfl rfl rfl rfl ?_ | refine za8 rfl rfl rfl rfl rfl rfl rfl ?_ | refine za9 rfl ?_ | refine zap rfl rfl rfl ?_ | refine zag rfl rfl rfl ?_ | refine zb1 rfl rfl rfl rfl ?_ | refine zam ?_ | refine zaj rfl rfl ?_ | refine zac rfl rfl ?_ | refine zd2 rfl rfl ?_ | refine zbf rfl rfl ?_ | refine zb0 rfl rfl ?_ | refine zav rfl rfl ?_ | refine zbd rfl rfl ?_ | refine zay rfl rfl rfl ?_ | refine zbj rfl rfl ?_ | refine zb9 rfl rfl rfl rfl ?_ | refine zau rfl rfl rfl rfl ?_ | refine zbb rfl rfl rfl rfl ?_ | refine zc8 rfl rfl ?_ | refine zbt rfl rfl ?_ | refine zas rfl rfl ?_ | refine zc9 ?_ | refine zbc env0_ok rfl rfl rfl ?_ | refine zaz (op := .add) rfl rfl rfl ?_ | refine zaz (op := .sub) rfl rfl rfl ?_ | refine zc7 rfl rfl rfl ?_ | refine zc6 rfl rfl rfl ?_ | refine zbe rfl rfl rfl ?_ | refine zb5 rfl rfl rfl ?_ | refine zb4 rfl rfl (by omega) (by assumption) rfl ?_ | refine zag rfl rfl (decide_eq_true ⟨by omega, by omega⟩) ?_ | refine zbn rfl rfl (by omega) (by omega) ?_ | refine zba rfl rfl rfl ?_ | refine zcb rfl ?_ | refine zca rfl ?_)
   exact zak ⟨.inr rfl, _, rfl, by rw [hall]; rfl⟩
end Go.Proofs.Ytmnkjofaodbokaa
