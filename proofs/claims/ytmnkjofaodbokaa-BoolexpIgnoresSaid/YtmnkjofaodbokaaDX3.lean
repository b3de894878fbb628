/-
  R10, R11, R12, R13, R14, R15, R16, R17 in one text.; THE EXAMPLES OF THE CHAPTER.; LISTS OF NUMBERS AS THE MACHINE HOLDS THEM; LISTS THAT ARE GONE THROUGH.; SMALL EXPRESSIONS.; LISTS OF SMALL EXPRESSIONS.; RIGHT EXPRESSIONS; HOW MANY NODES THEY HAVE AND HOW DEEP THEY ARE.; THE REFERENCE's DEPTH AND SIZE; WHETHER A VARIABLE OCCURS.; A LIST OF NUMBERS THAT GROWS; slices.Index, Contains, Equal.
-/
import Derived.Test.YtmnkjofaodbokaaDX2
namespace Go.Proofs.Ytmnkjofaodbokaa
open Go Go.Am
mutual
def szX : Ex → Int
 | .nd _ _ args => 1 + szL args
def szL : List Ex → Int
 | [] => 0
 | y :: ys => szX y + szL ys
end
mutual
theorem zdd : ∀ x : Ex, 1 ≤ szX x
 | .nd op ix args => by
  rw [szX]
  have := zbn args
  omega
theorem zbn : ∀ l : List Ex, 0 ≤ szL l
 | [] => by rw [szL]; exact Int.le_refl _
 | y :: ys => by
  rw [szL]
  have := zdd y
  have := zbn ys
  omega
end
theorem zg6 : ∀ l : List Ex, (l.length : Int) ≤ szL l
 | [] => by rw [szL]; exact Int.le_refl _
 | y :: ys => by
  rw [szL, List.length_cons]
  have := zdd y
  have := zg6 ys
  omega
mutual
theorem ztn : ∀ x : Ex, szX x ≤ 256 → Thin x
 | .nd op ix args => fun h => by
  rw [szX] at h
  have := zg6 args
  exact .nd (by omega) (zp7 args (by omega))
theorem zp7 : ∀ l : List Ex, szL l ≤ 256 → ∀ y ∈ l, Thin y
 | [] => fun _ y hy => absurd hy List.not_mem_nil
 | x :: xs => fun h y hy => by
  rw [szL] at h
  have h1 := zdd x
  have h2 := zbn xs
  rcases List.mem_cons.1 hy with he | hm
  ·rw [he]
   exact ztn x (by omega)
  ·exact zp7 xs (by omega) y hm
end
mutual
theorem zrc (most : Int) (h : 0 ≤ most) : ∀ x : Ex, cnt most x = if szX x ≤ most then szX x else most + 1
 | .nd op ix args => by
  rw [cnt, szX]
  exact zra most h 1 (by omega) (by omega) args
theorem zra (most : Int) (h : 0 ≤ most) (n : Int) (h1 : 1 ≤ n) (h2 : n ≤ most + 1) : ∀ l : List Ex, zmn most n l = if n + szL l ≤ most then n + szL l else most + 1
 | [] => by
  rw [zmn, szL]
  split <;> omega
 | y :: ys => by
  rw [zmn, szL]
  have hy := zdd y
  have hys := zbn ys
  split
  ·have e := zrc (most - n) (by omega) y
   have b := zis (most - n) (by omega) y
   rw [zra most h _ (by omega) (by omega) ys]
   split at e <;> rw [e] <;> (repeat' split) <;> omega
  ·rw [if_neg (by omega)]
   omega
end
theorem zen (m : Nat) (op ix : Int) (args : List Ex) : zce (m + 1) (.nd op ix args) = args.all (zce m) := by
 rw [zce]
 split
 ·rename_i h
  subst h
  cases args with
  | nil => rfl
  | cons a l => simp [zce]
 ·rfl
def zd2 (x : Ex) : Bool := decide (cnt 256 x ≤ 256) && zce 16 x
theorem zck (x : Ex) : zd2 x = true ↔ szX x ≤ 256 ∧ zce 16 x = true := by
 unfold zd2
 rw [Bool.and_eq_true, decide_eq_true_iff, zrc 256 (by omega)]
 constructor
 ·intro ⟨a, b⟩
  refine ⟨?_, b⟩
  split at a <;> omega
 ·intro ⟨a, b⟩
  exact ⟨by rw [if_pos a]; exact a, b⟩
mutual
theorem walkM : ∀ (x : Ex) (d n m : Int), 1 ≤ d → d ≤ 17 → 0 ≤ n → n ≤ 256 →
  if n + szX x ≤ 256 ∧ zce (17 - d).toNat x = true then ∃ m', zch zec d x (n, m) = .inl (n + szX x, m') else zch zec d x (n, m) = .inr ()
 | .nd op ix args => fun d n m hd h17 h0 hn => by
  rw [zch, szX]
  unfold zec
  have hs0 := zbn args
  by_cases hs : n + 1 > 256 ∨ d > 16
  ·rw [if_pos hs, if_neg]
   intro ⟨a, b⟩
   rcases hs with hs | hs
   ·omega
   ·rw [show (17 - d).toNat = 0 by omega] at b
    simp [zce] at b
  ·rw [if_neg hs, show (17 - d).toNat = (16 - d).toNat + 1 by omega, zen, ← Int.add_assoc]
   exact walkLM args d (n + 1) (zju m d) hd (by omega) (by omega) (by omega)
theorem walkLM : ∀ (l : List Ex) (d n m : Int), 1 ≤ d → d ≤ 16 → 0 ≤ n → n ≤ 256 →
  if n + szL l ≤ 256 ∧ l.all (zce (16 - d).toNat) = true then ∃ m', zcc zec d l (n, m) = .inl (n + szL l, m') else zcc zec d l (n, m) = .inr ()
 | [] => fun d n m hd h16 h0 hn => by
  rw [szL, zcc, if_pos ⟨by omega, rfl⟩, Int.add_zero]
  exact ⟨m, rfl⟩
 | y :: ys => fun d n m hd h16 h0 hn => by
  have hy := walkM y (d + 1) n m (by omega) (by omega) h0 hn
  rw [zcc, if_pos h16, szL]
  rw [show (17 - (d + 1)).toNat = (16 - d).toNat by omega] at hy
  have hp := zdd y
  have hq := zbn ys
  by_cases hc : n + szX y ≤ 256 ∧ zce (16 - d).toNat y = true
  ·rw [if_pos hc] at hy
   obtain ⟨m', hy⟩ := hy
   rw [hy, List.all_cons, hc.2, Bool.true_and, ← Int.add_assoc]
   exact walkLM ys d (n + szX y) m' hd h16 (by omega) hc.1
  ·rw [if_neg hc] at hy
   rw [hy, if_neg]
   intro ⟨a, b⟩
   rw [List.all_cons, Bool.and_eq_true] at b
   exact hc ⟨by omega, b.1⟩
end
mutual
theorem walkC (z : Int) : ∀ (x : Ex) (d : Int), 1 ≤ d → d ≤ 17 → zce (17 - d).toNat x = true → zch (zm6 z) d x () = if nds z x = 0 then .inl () else .inr (nds z x)
 | .nd op ix args => fun d hd h17 hb => by
  have h16 : d ≤ 16 := by
   by_cases h : d ≤ 16
   ·exact h
   ·rw [show (17 - d).toNat = 0 by omega] at hb
    simp [zce] at hb
  rw [show (17 - d).toNat = (16 - d).toNat + 1 by omega, zen] at hb
  rw [zch, nds]
  unfold zm6 zsq
  by_cases h : zb0 op ix args.length z = 0
  ·simp only [if_pos h]
   exact walkLC z args d hd h16 hb
  ·simp only [if_neg h]
theorem walkLC (z : Int) : ∀ (l : List Ex) (d : Int), 1 ≤ d → d ≤ 16 → l.all (zce (16 - d).toNat) = true → zcc (zm6 z) d l () = if zqb z l = 0 then .inl () else .inr (zqb z l)
 | [] => fun d hd h16 hb => by rw [zcc, zqb, if_pos rfl]
 | y :: ys => fun d hd h16 hb => by
  rw [List.all_cons, Bool.and_eq_true] at hb
  have hy := walkC z y (d + 1) (by omega) (by omega) (by rw [show (17 - (d + 1)).toNat = (16 - d).toNat by omega]; exact hb.1)
  rw [zcc, if_pos h16, hy, zqb]
  by_cases h : nds z y = 0
  ·simp only [if_pos h]
   exact walkLC z ys d hd h16 hb.2
  ·simp only [if_neg h]
end
def zbi (x : Ex) (n : Int) : Int := if n < 0 ∨ n > 256 then 2 else if zd2 x = true then nds n x else 5
theorem zdz (x : Ex) (n : Int) : zhf x n = zbi x n := by
 unfold zhf zbi
 split
 ·rfl
 ·have hw := walkM x 1 0 0 (by omega) (by omega) (by omega) (by omega)
  rw [Int.zero_add, show ((17 : Int) - 1).toNat = 16 from rfl] at hw
  by_cases hl : zd2 x = true
  ·rw [if_pos ((zck x).1 hl)] at hw
   obtain ⟨m', hw⟩ := hw
   rw [hw, if_pos hl]
   dsimp only
   rw [walkC n x 1 (by omega) (by omega) ((zck x).1 hl).2]
   by_cases h : nds n x = 0
   ·rw [if_pos h]; exact h.symm
   ·rw [if_neg h]
  ·rw [if_neg (fun h => hl ((zck x).2 h))] at hw
   rw [hw, if_neg hl]
-- pneumatic/pneumaticref05.Light
def ic48 : IC := .seq (.region [⟨(some 1), .box (.t 0), none⟩,
  ⟨(some 2), .mov (.c (.bool false)), none⟩] none)
 (.seq (.region [⟨(some 3), .load (some 3) (.t 1), none⟩,
  ⟨(some 4), .call (.c (.fn 67 [] [])) [(.t 3), (.c (.int .i64 256))], none⟩,
  ⟨(some 5), .bin .leq (.t 4) (.c (.int .i64 256)), none⟩,
  ⟨(some 6), .mov (.t 5), none⟩,
  ⟨(some 7), .load (some 3) (.t 1), some (6, true)⟩,
  ⟨(some 8), .call (.c (.fn 78 [] [])) [(.t 7), (.c (.int .i64 16))], some (6, true)⟩,
  ⟨(some 9), .pick (.t 6) (.t 8) (.c (.bool false)), none⟩,
  ⟨(some 2), .mov (.t 9), none⟩] none)
 (.ret))
theorem fn48 : env0.fn 48 = some ⟨10, ic48, [.t 2]⟩ := by kernel_rfl
theorem zsj (x : Ex) (hs : Slim x) : PF Try.prog 48 [.agg (cX x)] (.bool (zd2 x)) := by
 have h72 := zmr _ x 256 (Nat.le_refl _) hs (by decide) (by decide)
 have h73 := deep73 16 x 16 rfl (by decide) hs
 have hl : zd2 x = (decide (cnt 256 x ≤ 256) && zce 16 x) := rfl
 rw [hl]
 obtain ⟨op, ix, args⟩ := x
 refine zav env0_ok fn48 [(0, .agg (cX (.nd op ix args)))] (by show 1 ≤ 10; decide) rfl fun w0 N0 => ?_
 unfold ic48
 repeat (first | refine za6 ?_ | refine za0 rfl ?_ | refine za4 ?_ | refine za5 ?_ | refine za3 rfl ?_ | refine zaj rfl rfl rfl rfl ?_ | refine zc5 rfl rfl ?_)
 refine zai rfl rfl h72 (fun h => Bool.noConfusion (show false = true from h)) ?_
 refine zan rfl rfl rfl (fun h1 => ?_) fun h1 => ?_
 ·rw [h1, Bool.true_and]
  repeat (first | refine zc1 rfl ?_ | refine za3 rfl ?_ | refine zaj rfl rfl rfl rfl ?_)
  refine zai rfl rfl h73 (fun h => Bool.noConfusion (show false = true from h)) ?_
  repeat (first | refine za4 ?_ | refine za5 ?_ | refine zad ?_ | refine za3 rfl ?_ | refine zaf rfl rfl ?_)
  exact zaa ⟨.inr rfl, _, rfl, rfl⟩
 ·rw [h1, Bool.false_and]
  repeat (first | refine za4 ?_ | refine za5 ?_ | refine zad ?_ | refine ze9 rfl rfl ?_ | refine za3 rfl ?_ | refine zac rfl rfl ?_)
  exact zaa ⟨.inr rfl, _, rfl, rfl⟩
-- pneumatic/pneumaticref05.Check
def ic33 : IC := .seq (.region [⟨(some 2), .box (.t 0), none⟩,
  ⟨(some 4), .mov (.c (.int .i64 0)), none⟩] none)
 (.seq (.seq (.region [⟨(some 5), .mov (.t 1), none⟩,
  ⟨(some 6), .bin .lss (.t 5) (.c (.int .i64 0)), none⟩,
  ⟨(some 7), .mov (.t 6), none⟩,
  ⟨(some 8), .mov (.t 1), some (7, false)⟩,
  ⟨(some 9), .bin .gtr (.t 8) (.c (.int .i64 256)), some (7, false)⟩,
  ⟨(some 10), .pick (.t 7) (.c (.bool true)) (.t 9), none⟩] none)
 (.cond (.t 10) (.seq (.region [⟨(some 4), .mov (.c (.int .i64 2)), none⟩] none)
 (.ret))
 (.skip)))
 (.seq (.seq (.region [⟨(some 11), .load (some 3) (.t 2), none⟩,
  ⟨(some 12), .call (.c (.fn 48 [] [])) [(.t 11)], none⟩,
  ⟨(some 13), .un .not (.t 12), none⟩] none)
 (.cond (.t 13) (.seq (.region [⟨(some 4), .mov (.c (.int .i64 5)), none⟩] none)
 (.ret))
 (.skip)))
 (.seq (.region [⟨(some 14), .load (some 3) (.t 2), none⟩,
  ⟨(some 15), .mov (.t 1), none⟩,
  ⟨(some 16), .call (.c (.fn 71 [] [])) [(.t 14), (.t 15)], none⟩,
  ⟨(some 4), .mov (.t 16), none⟩] none)
 (.ret))))
theorem fn33 : env0.fn 33 = some ⟨17, ic33, [.t 4]⟩ := by kernel_rfl
theorem zmm (x : Ex) (hs : Slim x) (n : Int) : PF Try.prog 33 [.agg (cX x), .int .i64 n] (.int .i64 (zbi x n)) := by
 have h47 := zsj x hs
 have h89 : zd2 x = true → PF Try.prog 71 [.agg (cX x), .int .i64 n] (.int .i64 (nds n x)) := fun h => nodes89 n _ x (Nat.le_refl _) (ztn x ((zck x).1 h).1)
 obtain ⟨op, ix, args⟩ := x
 refine zav env0_ok fn33 [(0, .agg (cX (.nd op ix args))), (1, .int .i64 n)] (by show 2 ≤ 17; decide) rfl fun w0 N0 => ?_
 unfold ic33 zbi
 repeat (first | refine za6 ?_ | refine za0 rfl ?_ | refine za4 ?_ | refine za5 ?_ | refine za3 rfl ?_ | refine zc5 rfl rfl ?_)
 refine zan rfl rfl rfl (fun h1 => ?_) fun h1 => ?_
 ·rw [if_pos (.inl (of_decide_eq_true h1))]
  repeat (first | refine za6 ?_ | refine za0 rfl ?_ | refine za4 ?_ | refine za5 ?_ | refine zbf rfl ?_ | refine zad ?_ | refine za7 ?_ | refine ze9 rfl rfl ?_ | refine za3 rfl ?_ | refine zaf rfl rfl ?_)
  exact zaa ⟨.inr rfl, _, rfl, rfl⟩
 repeat (first | refine zc1 rfl ?_ | refine za3 rfl ?_)
 refine zan rfl rfl rfl (fun h2 => ?_) fun h2 => ?_
 ·rw [if_pos (.inr (of_decide_eq_true h2))]
  repeat (first | refine za6 ?_ | refine za0 rfl ?_ | refine za4 ?_ | refine za5 ?_ | refine zbf rfl ?_ | refine zad ?_ | refine za7 ?_ | refine za3 rfl ?_ | refine zac rfl rfl ?_)
  exact zaa ⟨.inr rfl, _, rfl, rfl⟩
 rw [if_neg (fun h => h.elim (of_decide_eq_false h1) (of_decide_eq_false h2))]
 repeat (first | refine za6 ?_ | refine za0 rfl ?_ | refine za4 ?_ | refine za5 ?_ | refine zae ?_ | refine zbp rfl ?_ | refine zaj rfl rfl rfl rfl ?_ | refine zac rfl rfl ?_)
 cases hl : zd2 (.nd op ix args) with
 | true =>
  rw [hl] at h47
  rw [if_pos rfl]
  refine zai rfl rfl h47 (fun h => Bool.noConfusion (show false = true from h)) ?_
  repeat (first | refine za6 ?_ | refine za0 rfl ?_ | refine za4 ?_ | refine za5 ?_ | refine zae ?_ | refine zbp rfl ?_ | refine za3 rfl ?_ | refine zaj rfl rfl rfl rfl ?_ | refine zfz rfl rfl ?_)
  refine zai rfl rfl (h89 hl) (fun h => Bool.noConfusion (show false = true from h)) ?_
  repeat (first | refine za4 ?_ | refine za5 ?_ | refine zad ?_ | refine za3 rfl ?_)
  exact zaa ⟨.inr rfl, _, rfl, rfl⟩
 | false =>
  rw [hl] at h47
  rw [if_neg (by simp)]
  refine zai rfl rfl h47 (fun h => Bool.noConfusion (show false = true from h)) ?_
  repeat (first | refine za6 ?_ | refine za0 rfl ?_ | refine za4 ?_ | refine za5 ?_ | refine zbf rfl ?_ | refine zad ?_ | refine za7 ?_ | refine za3 rfl ?_ | refine zfz rfl rfl ?_)
  exact zaa ⟨.inr rfl, _, rfl, rfl⟩
end Go.Proofs.Ytmnkjofaodbokaa
namespace Go.Proofs.Ytmnkjofaodbokaa
open Go Go.Am
mutual
def zbw (v : List Bool) : Ex → Bool
 | .nd op ix args => if op = 0 then ix == 1 else if op = 1 then v.getD ix.toNat false else if op = 2 then !(zdn v args).headD false else if op = 3 then (zdn v args).all id else (zdn v args).any id
def zdn (v : List Bool) : List Ex → List Bool
 | [] => []
 | y :: ys => zbw v y :: zdn v ys
end
theorem zk2 (v : List Bool) : ∀ l : List Ex, zdn v l = l.map (zbw v)
 | [] => by simp [zdn]
 | y :: ys => by simp [zdn, zk2 v ys]
def vsB (v : List Bool) : AV := .vs (v.map fun b => [.bool b])
theorem zgv {n op ix : Int} {args : List Ex} (h : nds n (.nd op ix args) = 0) : zb0 op ix args.length n = 0 ∧ ∀ y ∈ args, nds n y = 0 := by
 rw [nds] at h
 split at h
 ·rename_i h1
  refine ⟨h1, ?_⟩
  clear h1
  induction args with
  | nil => exact fun _ hy => absurd hy List.not_mem_nil
  | cons y ys ih =>
   rw [zqb] at h
   split at h
   ·rename_i h2
    intro z hz
    rcases List.mem_cons.1 hz with rfl | hm
    ·exact h2
    ·exact ih h z hm
   ·rename_i h2; exact absurd h h2
 ·rename_i h1; exact absurd h h1
theorem zgw {op ix k n : Int} (h : zb0 op ix k n = 0) : 0 ≤ op ∧ op < 5 ∧ zas op ≤ k ∧ k ≤ zb8 op ∧ 0 ≤ ix ∧ ix ≤ zbb op n := by
 unfold zb0 at h
 split at h
 ·exact absurd h (by decide)
 ·split at h
  ·exact absurd h (by decide)
  ·split at h
   ·exact absurd h (by decide)
   ·omega
theorem vs_get (v : List Bool) (i : Nat) (h : i < v.length) : (v.map fun b => ([.bool b] : List AV))[i]? = some [.bool (v.getD i false)] := by
 rw [List.getElem?_map, List.getElem?_eq_getElem h, List.getD_eq_getElem?_getD, List.getElem?_eq_getElem h]
 rfl
end Go.Proofs.Ytmnkjofaodbokaa
namespace Go.Proofs.Ytmnkjofaodbokaa
open Go Go.Am
def body81 : IC := .seq (.region [⟨(some 10), .bin .lss (.t 9) (.t 8), none⟩] none)
 (.seq (.cond (.t 10) (.skip)
 (.exit 0))
 (.seq (.block 1 (.seq (.region [⟨(some 11), .idxs 3 (.t 7) (.t 9), none⟩,
  ⟨(some 12), .load (some 3) (.t 11), none⟩,
  ⟨(some 5), .alloc [.int .i64 0, .int .i64 0, .nils], none⟩,
  ⟨none, .store 3 (.t 5) (.t 12), none⟩] none)
 (.seq (.region [⟨(some 13), .mov (.t 0), none⟩,
  ⟨(some 14), .load (some 3) (.t 5), none⟩,
  ⟨(some 15), .load none (.t 2), none⟩,
  ⟨(some 16), .call (.c (.fn 53 [] [])) [(.t 14), (.t 15)], none⟩,
  ⟨(some 17), .call (.t 13) [(.t 16)], none⟩,
  ⟨(some 18), .un .not (.t 17), none⟩] none)
 (.cond (.t 18) (.ret)
 (.skip)))))
 (.region [⟨(some 19), .bin .add (.t 9) (.c (.int .i64 1)), none⟩,
  ⟨(some 9), .mov (.t 19), none⟩] none)))
-- pneumatic/boolexp.eval$1
def ic81 : IC := .seq (.region [⟨(some 6), .faddr 2 (.t 1), none⟩,
  ⟨(some 7), .load none (.t 6), none⟩,
  ⟨(some 8), .len false (.t 7), none⟩,
  ⟨(some 9), .mov (.c (.int .i64 0)), none⟩] none)
 (.block 0 (.loop body81))
theorem fn81 : env0.fn 81 = some ⟨20, ic81, []⟩ := by kernel_rfl
def tabE : Tab := [
 (102, [
  ([.bool false], .fn 119 [] [.vptr [.bool false]]),
  ([.bool true], .fn 119 [] [.vptr [.bool true]])])]
theorem tabE_ok : TabOk Try.prog tabE := TabOk.of_run (env0_ok.tab TabOk.nil (pure := [])) (n := 60) (by kernel_rfl)
theorem every111 : PF Try.prog 102 [.bool false] (.fn 119 [] [.vptr [.bool false]]) := tabE_ok _ (List.mem_cons_self ..) _ (List.mem_cons_self ..)
section
variable {σ τ : Type} {step : σ → Bool → σ ⊕ τ} {M : Nat → Prop} {I : σ → HS → Prop} {J : τ → HS → Prop}
def zjz (step : σ → Bool → σ ⊕ τ) : List Bool → σ → σ ⊕ τ
 | [], s => .inl s
 | b :: l, s => match step s b with
  | .inl s' => zjz step l s'
  | .inr t => .inr t
set_option maxHeartbeats 2000000 in
theorem seq110 {w0 : World} {N0 id sp : Nat} (v : List Bool) (op ix : Int) (args : List Ex) (hlen : args.length ≤ 256) (hev : ∀ y ∈ args, PF Try.prog 53 [.agg (cX y), vsB v] (.bool (zbw v y))) (hloc : Local M I) (hy : ∀ s b H, I s H → CT Try.prog w0 N0 (.yield id sp) [.bool b] H (zpb M I J H (step s b))) (H : HS) (s : σ) (hI : I s H) :
  FT Try.prog w0 N0 81 [.yield id sp, .vptr (cX (.nd op ix args)), .vptr [vsB v]] H fun _ H' => Keep M H H' ∧ match zjz step (args.map (zbw v)) s with
   | .inl s' => I s' H'
   | .inr t => J t H' := by
 refine zg0 env0_ok fn81 [(0, .yield id sp), (1, .vptr (cX (.nd op ix args))), (2, .vptr [vsB v])] (by show 3 ≤ 20; decide) rfl ?_
 unfold ic81
 repeat (first | refine za6 ?_ | refine za0 rfl ?_ | refine za4 ?_ | refine za5 ?_ | refine zam ?_ | refine za3 rfl ?_ | refine zah rfl rfl ?_ | refine ze4 rfl rfl rfl ?_ | refine zc8 rfl rfl ?_)
 refine zeb (fun m S => ∃ i s' H', m = args.length - i ∧ i ≤ args.length ∧ zjz step (args.map (zbw v)) s = zjz step ((args.drop i).map (zbw v)) s' ∧ I s' H' ∧ Keep M H H' ∧
   S = st 20 [(0, .yield id sp), (2, .vptr [vsB v]), (7, .vs (cXs args)), (8, .int .i64 (cXs args).length), (9, .int .i64 (i : Nat))] H'.heap H'.next H'.clk) args.length
  (zau (.cons rfl (.cons rfl (.cons rfl (.cons rfl (.cons rfl .nil)))))) ⟨0, s, H, rfl, Nat.zero_le _, rfl, hI, Keep.refl M H, rfl⟩ ?_
 rintro m S ⟨i, s', H', rfl, hi, hwl, hI', hK', rfl⟩
 unfold body81
 repeat (first | refine za6 ?_ | refine za0 rfl ?_)
 refine zan rfl rfl rfl (fun h1 => ?_) fun h1 => ?_
 ·have hlt : i < args.length := by
   have := of_decide_eq_true h1
   rw [zaq] at this
   omega
  have hd : args.drop i = args[i] :: args.drop (i + 1) := List.drop_eq_getElem_cons hlt
  rw [hd, List.map_cons] at hwl
  have hge := zdy hlt
  have hmem : args[i] ∈ args := List.getElem_mem hlt
  generalize args[i] = y at hwl hge hmem
  have hevy := hev y hmem
  obtain ⟨yo, yi, ya⟩ := y
  repeat (first | refine za6 ?_ | refine za0 rfl ?_ | refine za4 ?_ | refine za5 ?_ | refine zam ?_ | refine zae ?_ | refine zbf rfl ?_)
  refine zea rfl rfl (Int.natCast_nonneg i) hge rfl ?_
  repeat (first | refine zaj rfl rfl rfl rfl ?_ | refine zc4 ?_)
  refine zaw rfl rfl rfl rfl zat rfl rfl ?_
  rw [zd6]
  repeat (first | refine za6 ?_ | refine za0 rfl ?_ | refine za4 ?_ | refine za5 ?_ | refine za3 rfl ?_)
  refine zeq rfl zat (Nat.lt_succ_self _) rfl rfl ?_
  repeat (first | refine zah rfl rfl ?_)
  refine zai rfl rfl hevy (fun h => Bool.noConfusion (show false = true from h)) ?_
  refine o_ct _ rfl rfl (hy s' (zbw v (.nd yo yi ya)) ⟨_, _, _⟩ (hloc.new hI' _ _)) (fun _ _ _ _ hm => absurd hm List.not_mem_nil) fun v2 H3 hF3 => ?_
  obtain ⟨hK3, hF3⟩ := hF3
  have hK4 : Keep M H H3 := hK'.trans ((Keep.new M H' _).trans hK3)
  cases hst : step s' (zbw v (.nd yo yi ya)) with
  | inr t =>
   rw [hst] at hF3
   obtain ⟨rfl, hJ⟩ := hF3
   repeat (first | refine za4 ?_ | refine za5 ?_ | refine zbf rfl ?_ | refine zad ?_ | refine za7 ?_ | refine zar ?_ | refine zfz rfl rfl ?_)
   refine zel ?_
   repeat (first | refine zar ?_)
   refine zaa ⟨.inr rfl, _, rfl, hK4, ?_⟩
   simp only [hwl, zjz, hst]
   exact hJ
  | inl s2 =>
   rw [hst] at hF3
   obtain ⟨rfl, hI2⟩ := hF3
   repeat (first | refine za0 rfl ?_ | refine za4 ?_ | refine za5 ?_ | refine zcb ?_ | refine zae ?_ | refine zbp rfl ?_ | refine za3 rfl ?_ | refine zfz rfl rfl ?_ | refine zd5 (op := .add) rfl rfl rfl ?_)
   rw [zbc i (by omega)]
   exact zcg (show args.length - (i + 1) < args.length - i by omega) (zau (.cons rfl (.cons rfl (.cons rfl (.cons rfl (.cons rfl .nil)))))) ⟨i + 1, s2, H3, rfl, hlt, by rw [hwl]; simp only [zjz, hst], hI2, hK4, rfl⟩
 ·have hi2 : i = args.length := by
   have := of_decide_eq_false h1
   rw [zaq] at this
   omega
  repeat (first | refine za6 ?_ | refine za4 ?_ | refine za5 ?_ | refine zbp rfl ?_ | refine zdw ?_ | refine zb9 ?_)
  refine zgj ?_
  repeat (first | refine zdv ?_)
  refine zaa ⟨.inl rfl, _, rfl, hK', ?_⟩
  subst hi2
  rw [List.drop_length] at hwl
  simp only [hwl, List.map_nil, zjz]
  exact hI'
end
noncomputable def zpg : Code := match env0.fn 119 with
 | some i => ((zbu i.ic).headD (.skip, .skip)).1
 | none => .skip
noncomputable def zpj : Code := match env0.fn 119 with
 | some i => ((zbu i.ic).headD (.skip, .skip)).2
 | none => .skip
def zqx : IC := .region [⟨(some 4), .mov (.t 6), none⟩] none
def zmj : IC := .block 1 (.seq (.region [⟨(some 7), .mov (.t 4), none⟩,
  ⟨(some 8), .load none (.t 1), none⟩,
  ⟨(some 9), .eqb true (.t 7) (.t 8), none⟩] none)
 (.cond (.t 9) (.seq (.region [⟨none, .store 1 (.t 3) (.c (.bool false)), none⟩] none)
 (.ret))
 (.skip)))
-- pneumatic/boolexp.every$1
noncomputable def ic119 : IC := .seq (.region [⟨(some 3), .alloc [.bool false], none⟩] none)
 (.seq (.seq (.region [⟨(some 5), .mov (.t 0), none⟩] none)
 (.block 0 (.rangeFunc (.t 5) [6] zpg zpj zqx zmj)))
 (.seq (.region [⟨none, .store 1 (.t 3) (.c (.bool true)), none⟩] none)
 (.ret)))
theorem fn119 : env0.fn 119 = some ⟨10, ic119, [.cell 3 none]⟩ := by kernel_rfl
def stepE (b : Bool) (_ : Unit) (r : Bool) : Unit ⊕ Unit := if r = b then .inl () else .inr ()
theorem foldE (b : Bool) : ∀ l : List Bool, zjz (stepE b) l () = if l.all (· == b) = true then .inl () else .inr ()
 | [] => rfl
 | r :: l => by
  rw [zjz, List.all_cons]
  unfold stepE
  cases r <;> cases b <;> first | exact foldE _ l | rfl
structure I115 (ltm : List (Nat × AV)) (_ : Unit) (H : HS) : Prop where
 nx : 3 ≤ H.next
 h2 : Am.look 2 H.heap = some (2, .loop .ready none 10 (zdh ltm) [6] zpg zpj (1, 1))
 h1 : Am.look 1 H.heap = some (1, .deferred)
 h0 : Am.look 0 H.heap = some (0, .cells [.bool false])
structure J115 (_ : Unit) (H : HS) : Prop where
 nx : 3 ≤ H.next
 h2 : ∃ tm, Am.look 2 H.heap = some (2, .loop .done (some .ret) 10 tm [6] zpg zpj (1, 1))
 h1 : Am.look 1 H.heap = some (1, .deferred)
 h0 : Am.look 0 H.heap = some (0, .cells [.bool false])
theorem local115 (ltm : List (Nat × AV)) : Local (fun i => i < 3) (I115 ltm) :=
 ⟨fun s H h i hi => Nat.lt_of_lt_of_le hi h.nx, fun s H H' h hn hl =>
  ⟨Nat.le_trans h.nx hn, (hl 2 (by decide)).trans h.h2, (hl 1 (by decide)).trans h.h1, (hl 0 (by decide)).trans h.h0⟩⟩
set_option maxHeartbeats 2000000 in
theorem yield115 {w0 : World} {N0 : Nat} (ltm : List (Nat × AV)) (b : Bool) (g1 : zba (.t 1) ltm = some (.vptr [.bool b])) (g3 : zba (.t 3) ltm = some (.mptr 0 0 0)) (ha : Com Try.prog zpg zqx) (hb : Com Try.prog zpj zmj) (s : Unit) (r : Bool) (H : HS) (h : I115 ltm s H) :
  CT Try.prog w0 N0 (.yield 2 2) [.bool r] H (zpb (fun i => i < 3) (I115 ltm) J115 H (stepE b s r)) := by
 obtain ⟨nx, h2, h1, h0⟩ := h
 refine zo7 (l0 := (6, .bool r) :: ltm) h2 ha hb rfl (by decide) rfl ?_
 unfold zqx
 repeat (first | refine za0 rfl ?_ | refine za4 ?_ | refine za3 rfl ?_)
 refine zaa ⟨rfl, _, rfl, ?_⟩
 unfold zmj
 repeat (first | refine za6 ?_ | refine za0 rfl ?_ | refine zam ?_ | refine za3 rfl ?_)
 refine zah g1 rfl ?_
 cases r <;> cases b
 all_goals repeat (first | refine za6 ?_ | refine za0 rfl ?_ | refine za4 ?_ | refine za5 ?_ | refine zcb ?_ | refine zae ?_ | refine zbf rfl ?_ | refine zbp rfl ?_ | refine o_eqbt rfl rfl rfl ?_ | refine o_eqbf rfl rfl rfl ?_)
 all_goals first
  | (
    refine zaw (sp := 0) (cs := [.bool false]) g3 rfl rfl rfl (by rw [za1, if_neg (by decide)]; exact h0) rfl rfl ?_
    repeat (first | refine za4 ?_ | refine za5 ?_ | refine zad ?_ | refine zar ?_)
    refine zaa ⟨10, zdh ltm, [6], zpg, zpj, (1, 1), ?_, some .ret, rfl, ⟨Nat.le_refl _, Nat.le_refl _, fun i hi hj => ?_⟩, ?_⟩
    ·dsimp only [st]
     rw [za1, if_neg (by decide), za1, if_pos rfl]
    ·dsimp only [st]
     rw [za1, if_neg (by omega), za1, if_neg (by omega), za1, if_neg (by omega)]
    ·refine ⟨rfl, nx, ⟨zdh ltm, ?_⟩, ?_, ?_⟩
     ·dsimp only [st]
      rw [za1, if_pos rfl]; rfl
     ·dsimp only [st]
      rw [za1, if_neg (by decide), za1, if_neg (by decide), za1, if_neg (by decide)]; exact h1
     ·dsimp only [st]
      rw [za1, if_neg (by decide), za1, if_pos rfl]; rfl)
  | (
    refine zaa ⟨10, zdh ltm, [6], zpg, zpj, (1, 1), ?_, none, rfl, ⟨Nat.le_refl _, Nat.le_refl _, fun i hi hj => ?_⟩, ?_⟩
    ·dsimp only [st]
     rw [za1, if_pos rfl]
    ·dsimp only [st]
     rw [za1, if_neg (by omega), za1, if_neg (by omega)]
    ·refine ⟨rfl, nx, ?_, ?_, ?_⟩
     ·dsimp only [st]
      rw [za1, if_pos rfl]; rfl
     ·dsimp only [st]
      rw [za1, if_neg (by decide), za1, if_neg (by decide)]; exact h1
     ·dsimp only [st]
      rw [za1, if_neg (by decide), za1, if_neg (by decide)]; exact h0)
set_option maxHeartbeats 2000000 in
theorem zjx (b : Bool) (v : List Bool) (op ix : Int) (args : List Ex) (hlen : args.length ≤ 256) (hev : ∀ y ∈ args, PF Try.prog 53 [.agg (cX y), vsB v] (.bool (zbw v y))) :
  PF Try.prog 119 [.fn 81 [] [.vptr (cX (.nd op ix args)), .vptr [vsB v]], .vptr [.bool b]] (.bool ((args.map (zbw v)).all (· == b))) := by
 refine zav env0_ok fn119 [(0, .fn 81 [] [.vptr (cX (.nd op ix args)), .vptr [vsB v]]), (1, .vptr [.bool b])] (by show 2 ≤ 10; decide) rfl fun w0 N0 => ?_
 unfold ic119
 repeat (first | refine za6 ?_ | refine za0 rfl ?_ | refine za4 ?_ | refine za5 ?_ | refine zam ?_ | refine za3 rfl ?_ | refine zc4 ?_)
 refine zkx (.inl rfl) rfl fun ha hb => (seq110 v op ix args hlen hev (local115 _) (fun s r H h => yield115 _ b rfl rfl ha hb s r H h) ⟨_, _, _⟩ () ⟨Nat.le_refl _, rfl, rfl, rfl⟩).mono fun v2 H2 hF => ?_
 obtain ⟨hK, hF⟩ := hF
 rw [foldE] at hF
 cases hall : (args.map (zbw v)).all (· == b) with
 | true =>
  rw [hall, if_pos rfl] at hF
  obtain ⟨nx, h2, h1, h0⟩ := hF
  refine ⟨_, _, .normal, _, _, _, _, _, _, h2, by simp, rfl, fun z hz => ?_, ?_⟩
  ·obtain rfl := List.mem_singleton.1 hz
   rw [za9, if_neg (by decide)]; exact h1
  ·repeat (first | refine za6 ?_ | refine za0 rfl ?_ | refine za5 ?_ | refine zcb ?_)
   refine zaw (sp := 0) (cs := [.bool false]) rfl rfl rfl rfl (by rw [za9, if_neg (by decide)]; exact h0) rfl rfl ?_
   repeat (first | refine za4 ?_ | refine za5 ?_ | refine zad ?_)
   refine zaa ⟨.inr rfl, .bool true, zfr (zdp 3) (zcr (sp := 0) (cs := [.bool true]) ?_ ?_), rfl⟩
   ·show Am.look 0 (zbd 1 (zb5 0 _ (zbd 2 H2.heap))) = _
    rw [za9, if_neg (by decide), za1, if_pos rfl]; rfl
   ·show 0 < H2.next; omega
 | false =>
  rw [hall, if_neg (by simp)] at hF
  obtain ⟨nx, ⟨tm, h2⟩, h1, h0⟩ := hF
  refine ⟨_, _, .ret, _, _, _, _, _, _, h2, by simp, rfl, fun z hz => ?_, ?_⟩
  ·obtain rfl := List.mem_singleton.1 hz
   rw [za9, if_neg (by decide)]; exact h1
  ·repeat (first | refine za7 ?_ | refine zar ?_)
   refine zaa ⟨.inr rfl, .bool false, zfr (zdp 3) (zcr (sp := 0) (cs := [.bool false]) ?_ ?_), rfl⟩
   ·show Am.look 0 (zbd 1 (zbd 2 H2.heap)) = _
    rw [za9, if_neg (by decide), za9, if_neg (by decide)]; exact h0
   ·show 0 < H2.next; omega
-- pneumatic/boolexp.shapes$1
def ic103 : IC := .seq (.region [⟨(some 2), .mov (.c (.bool false)), none⟩] none)
 (.seq (.region [⟨(some 3), .call (.c (.fn 102 [] [])) [(.c (.bool false))], none⟩,
  ⟨(some 4), .mov (.t 0), none⟩,
  ⟨(some 5), .call (.t 3) [(.t 4)], none⟩,
  ⟨(some 6), .un .not (.t 5), none⟩,
  ⟨(some 2), .mov (.t 6), none⟩] none)
 (.ret))
theorem fn103 : env0.fn 103 = some ⟨7, ic103, [.t 2]⟩ := by kernel_rfl
theorem some112 (v : List Bool) (op ix : Int) (args : List Ex) (hlen : args.length ≤ 256) (hev : ∀ y ∈ args, PF Try.prog 53 [.agg (cX y), vsB v] (.bool (zbw v y))) :
  PF Try.prog 103 [.fn 81 [] [.vptr (cX (.nd op ix args)), .vptr [vsB v]]] (.bool (!(args.map (zbw v)).all (· == false))) := by
 refine zav env0_ok fn103 [(0, .fn 81 [] [.vptr (cX (.nd op ix args)), .vptr [vsB v]])] (by show 1 ≤ 7; decide) rfl fun w0 N0 => ?_
 unfold ic103
 repeat (first | refine za6 ?_ | refine za0 rfl ?_ | refine za4 ?_ | refine za5 ?_ | refine za3 rfl ?_)
 refine zai rfl rfl every111 (fun h => Bool.noConfusion (show false = true from h)) ?_
 repeat (first | refine za3 rfl ?_)
 refine zi7 rfl rfl rfl (zjx false v op ix args hlen hev) (fun h => Bool.noConfusion (show false = true from h)) ?_
 repeat (first | refine za4 ?_ | refine za5 ?_ | refine zad ?_ | refine za3 rfl ?_ | refine zfz rfl rfl ?_)
 exact zaa ⟨.inr rfl, _, rfl, rfl⟩
end Go.Proofs.Ytmnkjofaodbokaa
namespace Go.Proofs.Ytmnkjofaodbokaa
open Go Go.Am
-- pneumatic/boolexp.eval
def ic53 : IC := .seq (.region [⟨(some 2), .box (.t 0), none⟩,
  ⟨(some 3), .box (.t 1), none⟩,
  ⟨(some 4), .mov (.c (.bool false)), none⟩] none)
 (.seq (.seq (.region [⟨(some 5), .faddr 0 (.t 2), none⟩,
  ⟨(some 6), .load none (.t 5), none⟩] none)
 (.block 0 (.seq (.region [⟨(some 8), .bin .eql (.t 6) (.c (.int .i64 0)), none⟩,
  ⟨(some 7), .mov (.t 8), none⟩] none)
 (.cond (.t 7) (.seq (.region [⟨(some 9), .faddr 1 (.t 2), none⟩,
  ⟨(some 10), .load none (.t 9), none⟩,
  ⟨(some 11), .bin .eql (.t 10) (.c (.int .i64 1)), none⟩,
  ⟨(some 4), .mov (.t 11), none⟩] none)
 (.ret))
 (.seq (.region [⟨(some 13), .bin .eql (.t 6) (.c (.int .i64 1)), none⟩,
  ⟨(some 12), .mov (.t 13), none⟩] none)
 (.cond (.t 12) (.seq (.region [⟨(some 14), .load none (.t 3), none⟩,
  ⟨(some 15), .faddr 1 (.t 2), none⟩,
  ⟨(some 16), .load none (.t 15), none⟩,
  ⟨(some 17), .idxs 1 (.t 14) (.t 16), none⟩,
  ⟨(some 18), .load none (.t 17), none⟩,
  ⟨(some 4), .mov (.t 18), none⟩] none)
 (.ret))
 (.skip)))))))
 (.seq (.region [⟨(some 19), .call (.c (.fn 80 [] [])) [], none⟩,
  ⟨(some 20), .faddr 0 (.t 2), none⟩,
  ⟨(some 21), .load none (.t 20), none⟩,
  ⟨(some 22), .idxagg 5 3 true (.t 19) (.t 21), none⟩,
  ⟨(some 23), .field 2 none (.t 22), none⟩,
  ⟨(some 24), .mkfn 81 [] [(.t 2), (.t 3)], none⟩,
  ⟨(some 25), .call (.t 23) [(.t 24)], none⟩,
  ⟨(some 4), .mov (.t 25), none⟩] (some [[], [], [1], [0, 2], [3], [], [4, 5, 0], [6, 6, 0, 1, 2, 3, 4, 5, 6]]))
 (.ret)))
theorem fn53 : env0.fn 53 = some ⟨26, ic53, [.t 4]⟩ := by kernel_rfl
theorem zpc (a : Bool) : ([a].all (· == false)) = !a := by cases a <;> rfl
theorem all_true (l : List Bool) : l.all (· == true) = l.all id := by
 induction l with
 | nil => rfl
 | cons a l ih => rw [List.all_cons, List.all_cons, ih]; cases a <;> rfl
theorem zqr (l : List Bool) : (!l.all (· == false)) = l.any id := by
 induction l with
 | nil => rfl
 | cons a l ih => rw [List.all_cons, List.any_cons, ← ih]; cases a <;> simp
set_option maxHeartbeats 4000000 in
theorem eval100 (v : List Bool) : ∀ (q : Nat) (x : Ex), SizeOf.sizeOf x ≤ q → nds v.length x = 0 → PF Try.prog 53 [.agg (cX x), vsB v] (.bool (zbw v x)) := by
 intro q
 induction q with
 | zero => intro x hq; cases x; simp at hq
 | succ q ih =>
 intro x hq hs
 obtain ⟨op, ix, args⟩ := x
 obtain ⟨hn, hch⟩ := zgv hs
 obtain ⟨o0, o5, kl, km, i0, im⟩ := zgw hn
 have hlen : args.length ≤ 256 := by
  unfold zb8 at km
  (repeat' split at km) <;> omega
 have hev : ∀ y ∈ args, PF Try.prog 53 [.agg (cX y), vsB v] (.bool (zbw v y)) := fun y hy => ih y (by have := zih (op := op) (ix := ix) hy; omega) (hch y hy)
 have hop : op = 0 ∨ op = 1 ∨ op = 2 ∨ op = 3 ∨ op = 4 := by omega
 have hd : zbw v (.nd op ix args) = if op = 0 then ix == 1 else if op = 1 then v.getD ix.toNat false else if op = 2 then !(zdn v args).headD false else if op = 3 then (zdn v args).all id else (zdn v args).any id := by rw [zbw]
 rw [hd]
 refine zav env0_ok fn53 [(0, .agg (cX (.nd op ix args))), (1, vsB v)] (by show 2 ≤ 26; decide) rfl fun w0 N0 => ?_
 unfold ic53
 rcases hop with rfl | rfl | rfl | rfl | rfl
 ·rw [if_pos rfl]
  repeat (first | refine za6 ?_ | refine za0 rfl ?_ | refine za4 ?_ | refine za5 ?_ | refine zam ?_ | refine zbf rfl ?_ | refine za3 rfl ?_ | refine zah rfl rfl ?_ | refine zab rfl ?_ | refine zc5 rfl rfl ?_ | refine zcv rfl rfl rfl ?_)
  refine zan rfl rfl rfl (fun h1 => ?_) fun h1 => ?_
  ·rw [h1]
   repeat (first | refine za4 ?_ | refine za5 ?_ | refine zad ?_ | refine za7 ?_ | refine zar ?_ | refine za3 rfl ?_)
   exact zaa ⟨.inr rfl, _, rfl, rfl⟩
  ·rw [h1]
   repeat (first | refine za4 ?_ | refine za5 ?_ | refine zad ?_ | refine za7 ?_ | refine zar ?_ | refine za3 rfl ?_)
   exact zaa ⟨.inr rfl, _, rfl, rfl⟩
 ·rw [if_neg (by decide), if_pos rfl]
  repeat (first | refine za6 ?_ | refine za0 rfl ?_ | refine za4 ?_ | refine za5 ?_ | refine zam ?_ | refine zbf rfl ?_ | refine zbp rfl ?_ | refine za3 rfl ?_ | refine zah rfl rfl ?_ | refine zab rfl ?_ | refine zc5 rfl rfl ?_ | refine zcv rfl rfl rfl ?_ | refine zci rfl rfl rfl ?_)
  have hi : ix.toNat < v.length := by
   simp [zbb] at im
   omega
  refine zea rfl rfl i0 (vs_get v _ hi) rfl ?_
  repeat (first | refine za4 ?_ | refine za5 ?_ | refine zad ?_ | refine za7 ?_ | refine zar ?_ | refine za3 rfl ?_ | refine zah rfl rfl ?_)
  exact zaa ⟨.inr rfl, _, rfl, rfl⟩
 ·rw [if_neg (by decide), if_neg (by decide), if_pos rfl]
  have h1 : args.length = 1 := by simp [zas, zb8] at kl km; omega
  have heq : (args.map (zbw v)).all (· == false) = !(zdn v args).headD false := by
   obtain ⟨y, rfl⟩ := List.length_eq_one_iff.1 h1
   rw [zdn, zdn, List.map_cons, List.map_nil, zpc]
   rfl
  repeat (first | refine za6 ?_ | refine za0 rfl ?_ | refine za4 ?_ | refine za5 ?_ | refine zcb ?_ | refine zam ?_ | refine zae ?_ | refine zbp rfl ?_ | refine za3 rfl ?_ | refine zah rfl rfl ?_ | refine zab rfl ?_ | refine zc5 rfl rfl ?_ | refine zci rfl rfl rfl ?_)
  refine zfb env0_ok [(80, [], ze6), (119, [.fn 81 [] [.vptr (cX (.nd 2 ix args)), .vptr [vsB v]], .vptr [.bool false]], .bool ((args.map (zbw v)).all (· == false)))] (fun x hx => by rcases List.mem_cons.1 hx with rfl | hx; exact zfu; obtain rfl := List.mem_singleton.1 hx; exact zjx false v 2 ix args hlen hev) (fun f => Nat.beq f 80) rfl rfl rfl ?_
  refine zai rfl rfl zb7 (fun h => Bool.noConfusion (show false = true from h)) ?_
  unfold ze6
  repeat (first | refine zah rfl rfl ?_ | refine zab rfl ?_ | refine zn9 rfl rfl ?_ | refine zcw rfl rfl rfl rfl ?_ | refine zj3 rfl rfl ?_)
  refine zi7 rfl rfl rfl (zg7 (by decide) zb7) (fun _ => rfl) ?_
  repeat (first | refine za4 ?_ | refine za5 ?_ | refine zad ?_ | refine za3 rfl ?_)
  refine zaa ⟨.inr rfl, _, rfl, ?_⟩
  show AV.bool _ = AV.bool _
  exact congrArg AV.bool heq
 ·rw [if_neg (by decide), if_neg (by decide), if_neg (by decide), if_pos rfl, zk2]
  have heq : (args.map (zbw v)).all (· == true) = (args.map (zbw v)).all id := all_true _
  repeat (first | refine za6 ?_ | refine za0 rfl ?_ | refine za4 ?_ | refine za5 ?_ | refine zcb ?_ | refine zam ?_ | refine zae ?_ | refine zbp rfl ?_ | refine za3 rfl ?_ | refine zah rfl rfl ?_ | refine zab rfl ?_ | refine zc5 rfl rfl ?_ | refine zci rfl rfl rfl ?_)
  refine zfb env0_ok [(80, [], ze6), (119, [.fn 81 [] [.vptr (cX (.nd 3 ix args)), .vptr [vsB v]], .vptr [.bool true]], .bool ((args.map (zbw v)).all (· == true)))] (fun x hx => by rcases List.mem_cons.1 hx with rfl | hx; exact zfu; obtain rfl := List.mem_singleton.1 hx; exact zjx true v 3 ix args hlen hev) (fun f => Nat.beq f 80) rfl rfl rfl ?_
  refine zai rfl rfl zb7 (fun h => Bool.noConfusion (show false = true from h)) ?_
  unfold ze6
  repeat (first | refine zah rfl rfl ?_ | refine zab rfl ?_ | refine zn9 rfl rfl ?_ | refine zcw rfl rfl rfl rfl ?_ | refine zj3 rfl rfl ?_)
  refine zi7 rfl rfl rfl (zg7 (by decide) zb7) (fun _ => rfl) ?_
  repeat (first | refine za4 ?_ | refine za5 ?_ | refine zad ?_ | refine za3 rfl ?_)
  refine zaa ⟨.inr rfl, _, rfl, ?_⟩
  show AV.bool _ = AV.bool _
  exact congrArg AV.bool heq
 ·rw [if_neg (by decide), if_neg (by decide), if_neg (by decide), if_neg (by decide), zk2]
  have heq : (!(args.map (zbw v)).all (· == false)) = (args.map (zbw v)).any id := zqr _
  repeat (first | refine za6 ?_ | refine za0 rfl ?_ | refine za4 ?_ | refine za5 ?_ | refine zcb ?_ | refine zam ?_ | refine zae ?_ | refine zbp rfl ?_ | refine za3 rfl ?_ | refine zah rfl rfl ?_ | refine zab rfl ?_ | refine zc5 rfl rfl ?_ | refine zci rfl rfl rfl ?_)
  refine zfb env0_ok [(80, [], ze6), (103, [.fn 81 [] [.vptr (cX (.nd 4 ix args)), .vptr [vsB v]]], .bool (!(args.map (zbw v)).all (· == false)))] (fun x hx => by rcases List.mem_cons.1 hx with rfl | hx; exact zfu; obtain rfl := List.mem_singleton.1 hx; exact some112 v 4 ix args hlen hev) (fun f => Nat.beq f 80) rfl rfl rfl ?_
  refine zai rfl rfl zb7 (fun h => Bool.noConfusion (show false = true from h)) ?_
  unfold ze6
  repeat (first | refine zah rfl rfl ?_ | refine zab rfl ?_ | refine zn9 rfl rfl ?_ | refine zcw rfl rfl rfl rfl ?_ | refine zj3 rfl rfl ?_)
  refine zi7 rfl rfl rfl (zg7 (by decide) zb7) (fun _ => rfl) ?_
  repeat (first | refine za4 ?_ | refine za5 ?_ | refine zad ?_ | refine za3 rfl ?_)
  refine zaa ⟨.inr rfl, _, rfl, ?_⟩
  show AV.bool _ = AV.bool _
  exact congrArg AV.bool heq
-- pneumatic/boolexp.Eval
def ic18 : IC := .seq (.region [⟨(some 2), .box (.t 0), none⟩,
  ⟨(some 4), .mov (.c (.bool false)), none⟩,
  ⟨(some 5), .mov (.c (.int .i64 0)), none⟩] none)
 (.seq (.seq (.region [⟨(some 7), .load (some 3) (.t 2), none⟩,
  ⟨(some 8), .mov (.t 1), none⟩,
  ⟨(some 9), .len false (.t 8), none⟩,
  ⟨(some 10), .call (.c (.fn 32 [] [])) [(.t 7), (.t 9)], none⟩,
  ⟨(some 6), .mov (.t 10), none⟩] none)
 (.seq (.region [⟨(some 11), .mov (.t 6), none⟩,
  ⟨(some 12), .bin .neq (.t 11) (.c (.int .i64 0)), none⟩] none)
 (.cond (.t 12) (.seq (.region [⟨(some 13), .mov (.t 6), none⟩,
  ⟨(some 4), .mov (.c (.bool false)), none⟩,
  ⟨(some 5), .mov (.t 13), none⟩] none)
 (.ret))
 (.skip))))
 (.seq (.region [⟨(some 14), .load (some 3) (.t 2), none⟩,
  ⟨(some 15), .mov (.t 1), none⟩,
  ⟨(some 16), .call (.c (.fn 53 [] [])) [(.t 14), (.t 15)], none⟩,
  ⟨(some 4), .mov (.t 16), none⟩,
  ⟨(some 5), .mov (.c (.int .i64 0)), none⟩] none)
 (.ret)))
theorem fn18 : env0.fn 18 = some ⟨17, ic18, [.t 4, .t 5]⟩ := by kernel_rfl
def evalV (x : Ex) (v : List Bool) : AV := if zbi x v.length = 0 then .tup [.bool (zbw v x), .int .i64 0] else .tup [.bool false, .int .i64 (zbi x v.length)]
theorem zso {x : Ex} {n : Int} (h : zbi x n = 0) : nds n x = 0 := by
 unfold zbi at h
 split at h
 ·exact absurd h (by decide)
 ·split at h
  ·exact h
  ·exact absurd h (by decide)
theorem eval81 (x : Ex) (hs : Slim x) (v : List Bool) : PF Try.prog 18 [.agg (cX x), vsB v] (evalV x v) := by
 have h59 := zjo x hs v.length
 rw [zdz] at h59
 have h100 : zbi x v.length = 0 → PF Try.prog 53 [.agg (cX x), vsB v] (.bool (zbw v x)) := fun h => eval100 v _ x (Nat.le_refl _) (zso h)
 have hl : ((v.map fun b => ([.bool b] : List AV)).length : Int) = v.length := by rw [List.length_map]
 obtain ⟨op, ix, args⟩ := x
 refine zav env0_ok fn18 [(0, .agg (cX (.nd op ix args))), (1, vsB v)] (by show 2 ≤ 17; decide) rfl fun w0 N0 => ?_
 unfold ic18 evalV
 repeat (first | refine za6 ?_ | refine za0 rfl ?_ | refine za4 ?_ | refine za5 ?_ | refine za3 rfl ?_ | refine zaj rfl rfl rfl rfl ?_ | refine zc8 rfl rfl ?_ | refine zc5 rfl rfl ?_)
 refine zai rfl (by rw [show (((fun n => AV.int .i64 n) (v.map fun b => ([.bool b] : List AV)).length) : AV) = .int .i64 v.length from congrArg _ hl]; rfl) h59 (fun h => Bool.noConfusion (show false = true from h)) ?_
 repeat (first | refine za6 ?_ | refine za0 rfl ?_ | refine za4 ?_ | refine za5 ?_ | refine za3 rfl ?_)
 refine zan rfl rfl rfl (fun h1 => ?_) fun h1 => ?_
 ·have h1 := bne_iff_ne.1 h1
  rw [if_neg h1]
  repeat (first | refine za6 ?_ | refine za0 rfl ?_ | refine za4 ?_ | refine za5 ?_ | refine zbf rfl ?_ | refine zad ?_ | refine za7 ?_ | refine za3 rfl ?_)
  exact zaa ⟨.inr rfl, _, rfl, rfl⟩
 ·have h1 : zbi (.nd op ix args) v.length = 0 := by simpa using h1
  rw [if_pos h1]
  repeat (first | refine za6 ?_ | refine za0 rfl ?_ | refine za4 ?_ | refine za5 ?_ | refine zae ?_ | refine zbp rfl ?_ | refine za3 rfl ?_ | refine zaj rfl rfl rfl rfl ?_)
  refine zai rfl rfl (h100 h1) (fun h => Bool.noConfusion (show false = true from h)) ?_
  repeat (first | refine za4 ?_ | refine za5 ?_ | refine zad ?_ | refine za3 rfl ?_)
  exact zaa ⟨.inr rfl, _, rfl, rfl⟩
end Go.Proofs.Ytmnkjofaodbokaa
namespace Go.Proofs.Ytmnkjofaodbokaa
open Go Go.Am
theorem zf2 : ∀ l : List Bool, hasM.hasML (l.map AV.bool) = false
 | [] => rfl
 | b :: l => by
  have := zf2 l
  simpa [hasM.hasML, hasM] using this
end Go.Proofs.Ytmnkjofaodbokaa
namespace Go.Proofs.Ytmnkjofaodbokaa
open Go Go.Am
def wkV (i : Int) : Ex := .nd 1 i []
def wkA : Ex := .nd 3 0 [wkV 0, .nd 2 0 [.nd 4 0 [wkV 1, wkV 2]]]
def wkB : Ex := .nd 3 0 [wkV 0, .nd 3 0 [wkV 1, .nd 0 1 []], wkV 0]
def wkC : Ex := .nd 3 0 [wkV 0, wkV 1]
def wkD : Ex := .nd 4 0 [wkV 0, .nd 2 0 [wkV 0]]
theorem zez (i : Int) : Slim (wkV i) := .nd (by decide) (fun _ h => by cases h)
theorem slimA : Slim wkA := .nd (by decide) fun y hy => by
 simp only [List.mem_cons, List.not_mem_nil, or_false] at hy
 rcases hy with rfl | rfl
 ·exact zez 0
 ·refine .nd (by decide) fun y hy => ?_
  obtain rfl := List.mem_singleton.1 hy
  refine .nd (by decide) fun y hy => ?_
  simp only [List.mem_cons, List.not_mem_nil, or_false] at hy
  rcases hy with rfl | rfl
  ·exact zez 1
  ·exact zez 2
theorem slimB' : Slim wkB := .nd (by decide) fun y hy => by
 simp only [List.mem_cons, List.not_mem_nil, or_false] at hy
 rcases hy with rfl | rfl | rfl
 ·exact zez 0
 ·refine .nd (by decide) fun y hy => ?_
  simp only [List.mem_cons, List.not_mem_nil, or_false] at hy
  rcases hy with rfl | rfl
  ·exact zez 1
  ·exact .nd (by decide) (fun _ h => by cases h)
 ·exact zez 0
theorem slimC : Slim wkC := .nd (by decide) fun y hy => by
 simp only [List.mem_cons, List.not_mem_nil, or_false] at hy
 rcases hy with rfl | rfl
 ·exact zez 0
 ·exact zez 1
theorem slimD : Slim wkD := .nd (by decide) fun y hy => by
 simp only [List.mem_cons, List.not_mem_nil, or_false] at hy
 rcases hy with rfl | rfl
 ·exact zez 0
 ·refine .nd (by decide) fun y hy => ?_
  obtain rfl := List.mem_singleton.1 hy
  exact zez 0
def tabC : Tab := [(32, [
 ([.agg [.int .i64 3, .int .i64 0, .vs [[.int .i64 1, .int .i64 0, .vs []], [.int .i64 2, .int .i64 0, .vs [[.int .i64 4, .int .i64 0, .vs [[.int .i64 1, .int .i64 1, .vs []], [.int .i64 1, .int .i64 2, .vs []]]]]]]], .int .i64 3], .int .i64 0),
 ([.agg [.int .i64 3, .int .i64 0, .vs [[.int .i64 1, .int .i64 0, .vs []], [.int .i64 3, .int .i64 0, .vs [[.int .i64 1, .int .i64 1, .vs []], [.int .i64 0, .int .i64 1, .vs []]]], [.int .i64 1, .int .i64 0, .vs []]]], .int .i64 3], .int .i64 0),
 ([.agg [.int .i64 3, .int .i64 0, .vs [[.int .i64 1, .int .i64 0, .vs []], [.int .i64 1, .int .i64 1, .vs []]]], .int .i64 3], .int .i64 0),
 ([.agg [.int .i64 4, .int .i64 0, .vs [[.int .i64 1, .int .i64 0, .vs []], [.int .i64 2, .int .i64 0, .vs [[.int .i64 1, .int .i64 0, .vs []]]]]], .int .i64 3], .int .i64 0)])]
theorem tabC_ok : TabOk Try.prog tabC := by
 intro x hx y hy
 unfold tabC at hx
 obtain rfl := List.mem_singleton.1 hx
 simp only [List.mem_cons, List.not_mem_nil, or_false] at hy
 have key : ∀ e : Ex, Slim e → zhf e 3 = 0 → PF Try.prog 32 [.agg (cX e), .int .i64 3] (.int .i64 0) := fun e hs h => by
  have := zjo e hs 3
  rwa [h] at this
 rcases hy with rfl | rfl | rfl | rfl
 ·exact key wkA slimA (by rw [zdz]; kernel_rfl)
 ·exact key wkB slimB' (by rw [zdz]; kernel_rfl)
 ·exact key wkC slimC (by rw [zdz]; kernel_rfl)
 ·exact key wkD slimD (by rw [zdz]; kernel_rfl)
def tabA : Tab := [
 (13, [
  ([], .bool true)])]
theorem tabA_ok : TabOk Try.prog tabA := TabOk.of_run (env0_ok.tab tabC_ok (pure := [])) (n := 80) (by kernel_rfl)
theorem zf0 : PF Try.prog 13 [] (.bool true) := tabA_ok _ (List.mem_cons_self ..) _ (List.mem_cons_self ..)
end Go.Proofs.Ytmnkjofaodbokaa
namespace Go.Proofs.Ytmnkjofaodbokaa
open Go Go.Am
def vsI (l : List Int) : AV := .vs (l.map fun z => [.int .i64 z])
theorem ztu {D : List Int} {k : Nat} (hk : k < D.length) : (D.map fun z => ([.int .i64 z] : List AV))[((k : Nat) : Int).toNat]? = some [.int .i64 D[k]] := by
 rw [Int.toNat_natCast, List.getElem?_map, List.getElem?_eq_getElem hk]
 rfl
theorem ziw : ∀ l : List Int, hasM.hasML (l.map (AV.int .i64)) = false
 | [] => rfl
 | b :: l => by
  have := ziw l
  simpa [hasM.hasML, hasM] using this
theorem zru (l : List Int) : (l.map (AV.int .i64)) = (l.map fun z => ([.int .i64 z] : List AV)).flatten := by
 induction l with
 | nil => rfl
 | cons z l ih => simpa using ih
theorem zmb {S : AS} {d id sp len : Nat} {cap : Option Nat} {J : List AV} (a : List Int) (hn : a.length = len) (hl : Am.look id S.heap = some (sp, .cells (a.map (AV.int .i64) ++ J))) : S.view (d + 1) (.ms id sp 1 0 len cap) = vsI a := by
 subst hn
 have e : S.elems 1 (.ms id sp 1 0 a.length cap) = some (a.map fun z => ([.int .i64 z] : List AV)) := by
  obtain ⟨n, t, hp, nx, ck, mk⟩ := S
  exact zjw (ys := J) (cap := cap) (n := n) (nx := nx) (ck := ck) (mk := mk) (l := []) (hp := hp) (by rw [← zru]; exact hl) (List.length_map ..) (fun x hx => by obtain ⟨s, _, rfl⟩ := List.mem_map.1 hx; rfl)
 simp only [AS.view, e]
 unfold vsI
 congr 1
 rw [List.map_map]
 apply List.map_congr_left
 intro s _
 cases d <;> rfl
theorem zts {S : AS} {d id sp len : Nat} {cap : Option Nat} (a : List Int) (hn : a.length = len) (hl : Am.look id S.heap = some (sp, .cells (a.map (AV.int .i64)))) : S.view (d + 1) (.ms id sp 1 0 len cap) = vsI a :=
 zmb (J := []) a hn (by rw [List.append_nil]; exact hl)
theorem Keep.mono {M M' : Nat → Prop} {H H' : HS} (h : Keep M H H') (hm : ∀ i, M i → M' i) : Keep M' H H' :=
 ⟨h.next, h.clk, fun i hi => h.look i fun h => hi (hm i h)⟩
theorem pair_eq {a b c d : AV} (h1 : a = c) (h2 : b = d) : [a, b] = [c, d] := by rw [h1, h2]
end Go.Proofs.Ytmnkjofaodbokaa
namespace Go.Proofs.Ytmnkjofaodbokaa
open Go Go.Am
-- pneumatic/pneumaticref05.Few
def ic52 : IC := .seq (.region [⟨(some 1), .box (.t 0), none⟩,
  ⟨(some 2), .mov (.c (.bool false)), none⟩] none)
 (.seq (.region [⟨(some 4), .load (some 3) (.t 1), none⟩,
  ⟨(some 5), .call (.c (.fn 67 [] [])) [(.t 4), (.c (.int .i64 512))], none⟩,
  ⟨(some 3), .mov (.t 5), none⟩] none)
 (.seq (.region [⟨(some 6), .mov (.t 3), none⟩,
  ⟨(some 7), .bin .leq (.t 6) (.c (.int .i64 40)), none⟩,
  ⟨(some 8), .mov (.t 7), none⟩,
  ⟨(some 9), .mov (.t 3), some (8, false)⟩,
  ⟨(some 10), .bin .gtr (.t 9) (.c (.int .i64 256)), some (8, false)⟩,
  ⟨(some 11), .mov (.t 10), some (8, false)⟩,
  ⟨(some 12), .mov (.t 3), some (11, true)⟩,
  ⟨(some 13), .bin .leq (.t 12) (.c (.int .i64 512)), some (11, true)⟩,
  ⟨(some 14), .pick (.t 11) (.t 13) (.c (.bool false)), some (8, false)⟩,
  ⟨(some 15), .mov (.t 14), some (8, false)⟩,
  ⟨(some 16), .load (some 3) (.t 1), some (15, true)⟩,
  ⟨(some 17), .call (.c (.fn 78 [] [])) [(.t 16), (.c (.int .i64 40))], some (15, true)⟩,
  ⟨(some 18), .pick (.t 15) (.t 17) (.c (.bool false)), some (8, false)⟩,
  ⟨(some 19), .pick (.t 8) (.c (.bool true)) (.t 18), none⟩,
  ⟨(some 2), .mov (.t 19), none⟩] none)
 (.ret)))
theorem fn52 : env0.fn 52 = some ⟨20, ic52, [.t 2]⟩ := by kernel_rfl
-- pneumatic/pneumaticlaw05.few$1
def ic51 : IC := .seq (.region [⟨(some 1), .box (.t 0), none⟩,
  ⟨(some 2), .mov (.c (.bool false)), none⟩] none)
 (.seq (.region [⟨(some 3), .load (some 3) (.t 1), none⟩,
  ⟨(some 4), .call (.c (.fn 52 [] [])) [(.t 3)], none⟩,
  ⟨(some 5), .un .not (.t 4), none⟩,
  ⟨(some 2), .mov (.t 5), none⟩] none)
 (.ret))
theorem fn51 : env0.fn 51 = some ⟨6, ic51, [.t 2]⟩ := by kernel_rfl
def b79_0 : IC := .seq (.region [⟨(some 9), .bin .lss (.t 8) (.t 7), none⟩] none)
 (.seq (.cond (.t 9) (.skip)
 (.exit 0))
 (.seq (.block 1 (.seq (.region [⟨(some 10), .mov (.t 8), none⟩,
  ⟨(some 5), .mov (.t 10), none⟩] none)
 (.seq (.region [⟨(some 11), .mov (.t 1), none⟩,
  ⟨(some 12), .mov (.t 0), none⟩,
  ⟨(some 13), .mov (.t 5), none⟩,
  ⟨(some 14), .idxs 3 (.t 12) (.t 13), none⟩,
  ⟨(some 15), .load (some 3) (.t 14), none⟩,
  ⟨(some 16), .call (.t 11) [(.t 15)], none⟩] none)
 (.cond (.t 16) (.seq (.region [⟨(some 17), .mov (.t 5), none⟩,
  ⟨(some 4), .mov (.t 17), none⟩] none)
 (.ret))
 (.skip)))))
 (.region [⟨(some 18), .bin .add (.t 8) (.c (.int .i64 1)), none⟩,
  ⟨(some 8), .mov (.t 18), none⟩] none)))
-- slices.IndexFunc[[]pneumatic/api.Expr,pneumatic/api.Expr]
def ic79 : IC := .seq (.region [⟨(some 4), .mov (.c (.int .i64 0)), none⟩] none)
 (.seq (.seq (.region [⟨(some 6), .mov (.t 0), none⟩,
  ⟨(some 7), .len false (.t 6), none⟩,
  ⟨(some 8), .mov (.c (.int .i64 0)), none⟩] none)
 (.block 0 (.loop b79_0)))
 (.seq (.region [⟨(some 4), .mov (.c (.int .i64 (-1))), none⟩] none)
 (.ret)))
theorem fn79 : env0.fn 79 = some ⟨19, ic79, [.t 4]⟩ := by kernel_rfl
-- slices.ContainsFunc[[]pneumatic/api.Expr,pneumatic/api.Expr]
def ic50 : IC := .seq (.region [⟨(some 4), .mov (.c (.bool false)), none⟩] none)
 (.seq (.region [⟨(some 5), .mov (.t 0), none⟩,
  ⟨(some 6), .mov (.t 1), none⟩,
  ⟨(some 7), .call (.c (.fn 79 [] [])) [(.t 5), (.t 6)], none⟩,
  ⟨(some 8), .bin .geq (.t 7) (.c (.int .i64 0)), none⟩,
  ⟨(some 4), .mov (.t 8), none⟩] none)
 (.ret))
theorem fn50 : env0.fn 50 = some ⟨9, ic50, [.t 4]⟩ := by kernel_rfl
-- pneumatic/pneumaticlaw05.few
def ic17 : IC := .seq (.region [⟨(some 2), .mov (.c (.bool false)), none⟩] none)
 (.seq (.region [⟨(some 3), .mov (.t 0), none⟩,
  ⟨(some 4), .call (.c (.fn 50 [] [])) [(.t 3), (.c (.fn 51 [] []))], none⟩,
  ⟨(some 5), .un .not (.t 4), none⟩,
  ⟨(some 2), .mov (.t 5), none⟩] none)
 (.ret))
theorem fn17 : env0.fn 17 = some ⟨6, ic17, [.t 2]⟩ := by kernel_rfl
def zky (x : Ex) : Bool := decide (cnt 512 x ≤ 40) || (decide (cnt 512 x > 256) && (decide (cnt 512 x ≤ 512) && zce 40 x))
theorem few52 (x : Ex) (hs : Slim x) : PF Try.prog 52 [.agg (cX x)] (.bool (zky x)) := by
 have p67 := zmr _ x 512 (Nat.le_refl _) hs (by omega) (by omega)
 have p78 := deep73 40 x 40 rfl (by omega) hs
 unfold zky
 generalize cnt 512 x = c at *
 generalize zce 40 x = dd at *
 obtain ⟨op, ix, args⟩ := x
 refine zav env0_ok fn52 [(0, .agg (cX (.nd op ix args)))] (by show 1 ≤ 20; decide) rfl fun w0 N0 => ?_
 unfold ic52
 refine za6 (za0 rfl (zc5 rfl rfl (za3 rfl (za4 (za5 ?_)))))
 refine zd3 [] [(0, 0, cX (.nd op ix args))] [(1, .vptr (cX (.nd op ix args)))] rfl (.cons rfl rfl .nil) .nil (.cons rfl (.fptr rfl rfl) .nil) ?_
 repeat (first | refine za6 ?_ | refine za0 rfl ?_ | refine zaj rfl rfl rfl rfl ?_)
 refine zai rfl rfl p67 (fun h => Bool.noConfusion (show false = true from h)) ?_
 repeat (first | refine za6 ?_ | refine za0 rfl ?_ | refine za4 ?_ | refine za5 ?_ | refine za3 rfl ?_)
 refine zan rfl rfl rfl (fun h1 => ?_) fun h1 => ?_
 ·repeat (first | refine za4 ?_ | refine za5 ?_ | refine zad ?_ | refine ze9 rfl rfl ?_ | refine o_gt rfl ?_ | refine za3 rfl ?_ | refine zaf rfl rfl ?_)
  exact zaa ⟨.inr rfl, _, rfl, by rw [h1]; rfl⟩
 ·rw [h1]
  repeat (first | refine zc1 rfl ?_ | refine za3 rfl ?_)
  refine zan rfl rfl rfl (fun h2 => ?_) fun h2 => ?_
  ·rw [h2]
   repeat (first | refine zc1 rfl ?_ | refine za3 rfl ?_)
   refine zan rfl rfl rfl (fun h3 => ?_) fun h3 => ?_
   ·rw [h3]
    repeat (first | refine zc1 rfl ?_ | refine za3 rfl ?_ | refine zaj rfl rfl rfl rfl ?_ | refine zaf rfl rfl ?_)
    refine zai rfl rfl p78 (fun h => Bool.noConfusion (show false = true from h)) ?_
    repeat (first | refine za4 ?_ | refine za5 ?_ | refine zad ?_ | refine zc1 rfl ?_ | refine za3 rfl ?_ | refine zaf rfl rfl ?_ | refine zac rfl rfl ?_)
    exact zaa ⟨.inr rfl, _, rfl, rfl⟩
   ·rw [h3]
    repeat (first | refine za4 ?_ | refine za5 ?_ | refine zad ?_ | refine zc1 rfl ?_ | refine ze9 rfl rfl ?_ | refine za3 rfl ?_ | refine zaf rfl rfl ?_ | refine zac rfl rfl ?_)
    exact zaa ⟨.inr rfl, _, rfl, rfl⟩
  ·rw [h2]
   repeat (first | refine za4 ?_ | refine za5 ?_ | refine zad ?_ | refine zc1 rfl ?_ | refine ze9 rfl rfl ?_ | refine za3 rfl ?_ | refine zac rfl rfl ?_)
   exact zaa ⟨.inr rfl, _, rfl, rfl⟩
theorem few51 (x : Ex) (hs : Slim x) : PF Try.prog 51 [.agg (cX x)] (.bool (!zky x)) := by
 have p52 := few52 x hs
 generalize zky x = c at *
 obtain ⟨op, ix, args⟩ := x
 refine zav env0_ok fn51 [(0, .agg (cX (.nd op ix args)))] (by show 1 ≤ 6; decide) rfl fun w0 N0 => ?_
 unfold ic51
 refine za6 (za0 rfl (zc5 rfl rfl (za3 rfl (za4 (za5 ?_)))))
 refine zd3 [] [(0, 0, cX (.nd op ix args))] [(1, .vptr (cX (.nd op ix args)))] rfl (.cons rfl rfl .nil) .nil (.cons rfl (.fptr rfl rfl) .nil) ?_
 repeat (first | refine za6 ?_ | refine za0 rfl ?_ | refine zaj rfl rfl rfl rfl ?_)
 refine zai rfl rfl p52 (fun h => Bool.noConfusion (show false = true from h)) ?_
 repeat (first | refine za4 ?_ | refine za5 ?_ | refine zad ?_ | refine za3 rfl ?_ | refine zfz rfl rfl ?_)
 exact zaa ⟨.inr rfl, _, rfl, rfl⟩
end Go.Proofs.Ytmnkjofaodbokaa
namespace Go.Proofs.Ytmnkjofaodbokaa
open Go Go.Am
def fiX (p : Ex → Bool) (i : Nat) : List Ex → Int
 | [] => -1
 | x :: l => if p x = true then (i : Nat) else fiX p (i + 1) l
theorem fiX_step (p : Ex → Bool) {l : List Ex} {i : Nat} (h : i < l.length) : fiX p i (l.drop i) = if p l[i] = true then ((i : Nat) : Int) else fiX p (i + 1) (l.drop (i + 1)) := by
 rw [List.drop_eq_getElem_cons h]; rfl
theorem zrp (p : Ex → Bool) : ∀ (l : List Ex) (i : Nat), decide (fiX p i l ≥ 0) = l.any p
 | [], i => rfl
 | x :: l, i => by
  rw [List.any_cons]
  unfold fiX
  cases h : p x with
  | true => rw [if_pos rfl, Bool.true_or, decide_eq_true (by omega)]
  | false => rw [if_neg Bool.false_ne_true, Bool.false_or, zrp p l (i + 1)]
theorem index79 (l : List Ex) (hl : l.length < 9223372036854775807) (hs : ∀ x ∈ l, Slim x) : PF Try.prog 79 [.vs (cXs l), .fn 51 [] []] (.int .i64 (fiX (fun x => !zky x) 0 l)) := by
 have hcl := zaq l
 refine zav env0_ok fn79 [(0, .vs (cXs l)), (1, .fn 51 [] [])] (by show 2 ≤ 19; decide) rfl fun w0 N0 => ?_
 unfold ic79
 repeat (first | refine za6 ?_ | refine za0 rfl ?_ | refine za4 ?_ | refine za5 ?_ | refine zam ?_ | refine za3 rfl ?_ | refine zc8 rfl rfl ?_)
 refine zeb (fun mm S => ∃ i, mm = l.length - i ∧ i ≤ l.length ∧ fiX (fun x => !zky x) i (l.drop i) = fiX (fun x => !zky x) 0 l ∧ S = st 19 [(0, .vs (cXs l)), (1, .fn 51 [] []), (7, .int .i64 (cXs l).length), (8, .int .i64 (i : Nat))] [] 0 0) l.length
  (zau (.cons rfl (.cons rfl (.cons rfl (.cons rfl .nil))))) ⟨0, rfl, Nat.zero_le _, rfl, rfl⟩ ?_
 rintro mm S ⟨i, rfl, hi, hv, rfl⟩
 unfold b79_0
 repeat (first | refine za6 ?_ | refine za0 rfl ?_)
 refine zan rfl rfl rfl (fun h3 => ?_) fun h3 => ?_
 ·have hlt : i < l.length := by
   have h4 : ((i : Nat) : Int) < (((cXs l).length : Nat) : Int) := of_decide_eq_true h3
   omega
  have w1 : IntKind.wrap .i64 (((i : Nat) : Int) + 1) = ((i + 1 : Nat) : Int) := zbc i (by omega)
  have hg := zdy hlt
  have hst := fiX_step (fun x => !zky x) hlt
  have p51 := few51 l[i] (hs _ (List.getElem_mem hlt))
  generalize l[i] = a at *
  generalize zky a = fa at *
  obtain ⟨op, ix, args⟩ := a
  repeat (first | refine za6 ?_ | refine za0 rfl ?_ | refine za4 ?_ | refine za5 ?_ | refine zam ?_ | refine zae ?_ | refine zbf rfl ?_ | refine za3 rfl ?_ | refine zaj rfl rfl rfl rfl ?_ | refine zea rfl rfl (by omega) (by assumption) rfl ?_)
  refine zi7 rfl rfl rfl p51 (fun h => Bool.noConfusion (show false = true from h)) ?_
  cases fa with
  | false =>
   rw [Bool.not_false, if_pos rfl, hv] at hst
   repeat (first | refine za6 ?_ | refine za0 rfl ?_ | refine za4 ?_ | refine za5 ?_ | refine zbf rfl ?_ | refine zad ?_ | refine za7 ?_ | refine zar ?_ | refine za3 rfl ?_)
   exact zaa ⟨.inr rfl, _, rfl, by rw [hst]; rfl⟩
  | true =>
   rw [Bool.not_true, if_neg Bool.false_ne_true, hv] at hst
   repeat (first | refine za0 rfl ?_ | refine za4 ?_ | refine za5 ?_ | refine zcb ?_ | refine zae ?_ | refine zbp rfl ?_ | refine za3 rfl ?_ | refine zd5 (op := .add) rfl rfl rfl ?_)
   rw [w1]
   exact zcg (show l.length - (i + 1) < l.length - i by omega) (zau (.cons rfl (.cons rfl (.cons rfl (.cons rfl .nil))))) ⟨i + 1, rfl, hlt, hst.symm, rfl⟩
 ·have hie : i = l.length := by
   have h4 : ¬ ((i : Nat) : Int) < (((cXs l).length : Nat) : Int) := of_decide_eq_false h3
   omega
  rw [hie, List.drop_length] at hv
  repeat (first | refine za6 ?_ | refine za4 ?_ | refine za5 ?_ | refine zbp rfl ?_ | refine zdw ?_ | refine zb9 ?_)
  refine zgj ?_
  repeat (first | refine za6 ?_ | refine za0 rfl ?_ | refine za4 ?_ | refine za5 ?_ | refine zad ?_ | refine zdv ?_ | refine za3 rfl ?_)
  exact zaa ⟨.inr rfl, _, rfl, by rw [← hv]; rfl⟩
theorem zpo (l : List Ex) (hl : l.length < 9223372036854775807) (hs : ∀ x ∈ l, Slim x) : PF Try.prog 50 [.vs (cXs l), .fn 51 [] []] (.bool (l.any fun x => !zky x)) := by
 have p79 := index79 l hl hs
 rw [← zrp _ l 0]
 generalize fiX (fun x => !zky x) 0 l = z at *
 refine zav env0_ok fn50 [(0, .vs (cXs l)), (1, .fn 51 [] [])] (by show 2 ≤ 9; decide) rfl fun w0 N0 => ?_
 unfold ic50
 repeat (first | refine za6 ?_ | refine za0 rfl ?_ | refine za4 ?_ | refine za5 ?_ | refine za3 rfl ?_)
 refine zai rfl rfl p79 (fun h => Bool.noConfusion (show false = true from h)) ?_
 refine zan rfl rfl rfl (fun h => ?_) fun h => ?_
 ·repeat (first | refine za4 ?_ | refine za5 ?_ | refine zad ?_ | refine za3 rfl ?_)
  exact zaa ⟨.inr rfl, _, rfl, by rw [h]; rfl⟩
 ·repeat (first | refine za4 ?_ | refine za5 ?_ | refine zad ?_ | refine za3 rfl ?_)
  exact zaa ⟨.inr rfl, _, rfl, by rw [h]; rfl⟩
theorem few17 (l : List Ex) (hl : l.length < 9223372036854775807) (hs : ∀ x ∈ l, Slim x) : PF Try.prog 17 [.vs (cXs l)] (.bool (l.all zky)) := by
 have p50 := zpo l hl hs
 have e : l.all zky = !(l.any fun x => !zky x) := by
  rw [List.not_any_eq_all_not]
  simp only [Bool.not_not]
 rw [e]
 generalize (l.any fun x => !zky x) = z at *
 refine zav env0_ok fn17 [(0, .vs (cXs l))] (by show 1 ≤ 6; decide) rfl fun w0 N0 => ?_
 unfold ic17
 repeat (first | refine za6 ?_ | refine za0 rfl ?_ | refine za4 ?_ | refine za5 ?_ | refine za3 rfl ?_)
 refine zai rfl rfl p50 (fun h => Bool.noConfusion (show false = true from h)) ?_
 repeat (first | refine za4 ?_ | refine za5 ?_ | refine zad ?_ | refine za3 rfl ?_ | refine zfz rfl rfl ?_)
 exact zaa ⟨.inr rfl, _, rfl, rfl⟩
end Go.Proofs.Ytmnkjofaodbokaa
namespace Go.Proofs.Ytmnkjofaodbokaa
open Go Go.Am
-- pneumatic/pneumaticlaw05.right
def ic11 : IC := .seq (.region [⟨(some 2), .box (.t 0), none⟩,
  ⟨(some 4), .mov (.c (.bool false)), none⟩] none)
 (.seq (.region [⟨(some 5), .load (some 3) (.t 2), none⟩,
  ⟨(some 6), .bslice 3 1 [.int .i64 0, .int .i64 0, .nils] [(0, 3, (.t 5))], none⟩,
  ⟨(some 7), .call (.c (.fn 17 [] [])) [(.t 6)], none⟩,
  ⟨(some 8), .mov (.t 7), none⟩,
  ⟨(some 9), .load (some 3) (.t 2), some (8, true)⟩,
  ⟨(some 10), .mov (.t 1), some (8, true)⟩,
  ⟨(some 11), .call (.c (.fn 33 [] [])) [(.t 9), (.t 10)], some (8, true)⟩,
  ⟨(some 12), .bin .eql (.t 11) (.c (.int .i64 0)), some (8, true)⟩,
  ⟨(some 13), .pick (.t 8) (.t 12) (.c (.bool false)), none⟩,
  ⟨(some 4), .mov (.t 13), none⟩] none)
 (.ret))
theorem fn11 : env0.fn 11 = some ⟨14, ic11, [.t 4]⟩ := by kernel_rfl
def b68_0 : IC := .seq (.seq (.region [⟨(some 5), .mov (.t 4), none⟩,
  ⟨(some 6), .faddr 2 (.t 1), none⟩,
  ⟨(some 7), .load none (.t 6), none⟩,
  ⟨(some 8), .len false (.t 7), none⟩,
  ⟨(some 9), .bin .lss (.t 5) (.t 8), none⟩] none)
 (.cond (.t 9) (.skip)
 (.exit 0)))
 (.seq (.block 1 (.region [⟨(some 12), .mov (.t 3), none⟩,
  ⟨(some 13), .faddr 2 (.t 1), none⟩,
  ⟨(some 14), .load none (.t 13), none⟩,
  ⟨(some 15), .mov (.t 4), none⟩,
  ⟨(some 16), .idxs 3 (.t 14) (.t 15), none⟩,
  ⟨(some 17), .load (some 3) (.t 16), none⟩,
  ⟨(some 18), .call (.c (.fn 68 [] [])) [(.t 17)], none⟩,
  ⟨(some 19), .minmax true [(.t 12), (.t 18)], none⟩,
  ⟨(some 3), .mov (.t 19), none⟩] none))
 (.region [⟨(some 10), .mov (.t 4), none⟩,
  ⟨(some 11), .bin .add (.t 10) (.c (.int .i64 1)), none⟩,
  ⟨(some 4), .mov (.t 11), none⟩] none))
-- pneumatic/pneumaticref05.Depth
def ic68 : IC := .seq (.region [⟨(some 1), .box (.t 0), none⟩,
  ⟨(some 2), .mov (.c (.int .i64 0)), none⟩] none)
 (.seq (.region [⟨(some 3), .mov (.c (.int .i64 0)), none⟩] none)
 (.seq (.seq (.region [⟨(some 4), .mov (.c (.int .i64 0)), none⟩] none)
 (.block 0 (.loop b68_0)))
 (.seq (.region [⟨(some 20), .mov (.t 3), none⟩,
  ⟨(some 21), .bin .add (.t 20) (.c (.int .i64 1)), none⟩,
  ⟨(some 2), .mov (.t 21), none⟩] none)
 (.ret))))
theorem fn68 : env0.fn 68 = some ⟨22, ic68, [.t 2]⟩ := by kernel_rfl
-- pneumatic/boolexp.Size
def ic27 : IC := .seq (.region [⟨(some 1), .box (.t 0), none⟩,
  ⟨(some 2), .mov (.c (.int .i64 0)), none⟩,
  ⟨(some 3), .mov (.c (.int .i64 0)), none⟩,
  ⟨(some 4), .mov (.c (.int .i64 0)), none⟩] none)
 (.seq (.region [⟨(some 7), .load (some 3) (.t 1), none⟩,
  ⟨(some 8), .call (.c (.fn 47 [] [])) [(.t 7)], none⟩,
  ⟨(some 6), .mov (.t 8), none⟩,
  ⟨(some 9), .extract (.t 6) 0, none⟩,
  ⟨(some 10), .extract (.t 6) 1, none⟩,
  ⟨(some 11), .extract (.t 6) 2, none⟩,
  ⟨(some 2), .mov (.t 9), none⟩,
  ⟨(some 3), .mov (.t 10), none⟩,
  ⟨(some 5), .mov (.t 11), none⟩] none)
 (.seq (.seq (.region [⟨(some 12), .mov (.t 5), none⟩,
  ⟨(some 13), .un .not (.t 12), none⟩] none)
 (.cond (.t 13) (.seq (.region [⟨(some 2), .mov (.c (.int .i64 0)), none⟩,
  ⟨(some 3), .mov (.c (.int .i64 0)), none⟩,
  ⟨(some 4), .mov (.c (.int .i64 5)), none⟩] none)
 (.ret))
 (.skip)))
 (.seq (.region [⟨(some 14), .mov (.t 2), none⟩,
  ⟨(some 15), .mov (.t 3), none⟩,
  ⟨(some 2), .mov (.t 14), none⟩,
  ⟨(some 3), .mov (.t 15), none⟩,
  ⟨(some 4), .mov (.c (.int .i64 0)), none⟩] none)
 (.ret))))
theorem fn27 : env0.fn 27 = some ⟨16, ic27, [.t 2, .t 3, .t 4]⟩ := by kernel_rfl
-- pneumatic/pneumaticref05.Size
def ic30 : IC := .seq (.region [⟨(some 1), .box (.t 0), none⟩,
  ⟨(some 2), .mov (.c (.int .i64 0)), none⟩,
  ⟨(some 3), .mov (.c (.int .i64 0)), none⟩,
  ⟨(some 4), .mov (.c (.int .i64 0)), none⟩] none)
 (.seq (.seq (.region [⟨(some 5), .load (some 3) (.t 1), none⟩,
  ⟨(some 6), .call (.c (.fn 48 [] [])) [(.t 5)], none⟩,
  ⟨(some 7), .un .not (.t 6), none⟩] none)
 (.cond (.t 7) (.seq (.region [⟨(some 2), .mov (.c (.int .i64 0)), none⟩,
  ⟨(some 3), .mov (.c (.int .i64 0)), none⟩,
  ⟨(some 4), .mov (.c (.int .i64 5)), none⟩] none)
 (.ret))
 (.skip)))
 (.seq (.region [⟨(some 8), .load (some 3) (.t 1), none⟩,
  ⟨(some 9), .call (.c (.fn 67 [] [])) [(.t 8), (.c (.int .i64 256))], none⟩,
  ⟨(some 10), .load (some 3) (.t 1), none⟩,
  ⟨(some 11), .call (.c (.fn 68 [] [])) [(.t 10)], none⟩,
  ⟨(some 2), .mov (.t 9), none⟩,
  ⟨(some 3), .mov (.t 11), none⟩,
  ⟨(some 4), .mov (.c (.int .i64 0)), none⟩] (some [[], [0], [], [2, 1], [1, 3, 0, 1], [3, 4, 0, 1, 2, 3, 4], [5, 0, 1, 2, 3, 4, 5]]))
 (.ret)))
theorem fn30 : env0.fn 30 = some ⟨12, ic30, [.t 2, .t 3, .t 4]⟩ := by kernel_rfl
def rgtX (x : Ex) (n : Int) : Bool := zky x && decide (zbi x n = 0)
theorem right11 (x : Ex) (hs : Slim x) (n : Int) : PF Try.prog 11 [.agg (cX x), .int .i64 n] (.bool (rgtX x n)) := by
 have p17 := few17 [x] (show (1 : Nat) < 9223372036854775807 by decide) (fun y hy => by obtain rfl := List.mem_singleton.1 hy; exact hs)
 have p33 := zmm x hs n
 unfold rgtX
 rw [List.all_cons, List.all_nil, Bool.and_true] at p17
 generalize zky x = c at *
 generalize zbi x n = e at *
 obtain ⟨op, ix, args⟩ := x
 refine zav env0_ok fn11 [(0, .agg (cX (.nd op ix args))), (1, .int .i64 n)] (by show 2 ≤ 14; decide) rfl fun w0 N0 => ?_
 unfold ic11
 refine za6 (za0 rfl (zc5 rfl rfl (za3 rfl (za4 (za5 ?_)))))
 refine zd3 [] [(0, 0, cX (.nd op ix args))] [(1, .int .i64 n), (2, .vptr (cX (.nd op ix args)))] rfl (.cons rfl rfl .nil) .nil (.cons rfl (.same rfl) (.cons rfl (.fptr rfl rfl) .nil)) ?_
 repeat (first | refine za6 ?_ | refine za0 rfl ?_ | refine zaj rfl rfl rfl rfl ?_ | refine zfp rfl rfl ?_)
 refine zai rfl rfl p17 (fun _ => rfl) ?_
 cases c with
 | false =>
  repeat (first | refine za4 ?_ | refine za5 ?_ | refine zad ?_ | refine ze9 rfl rfl ?_ | refine za3 rfl ?_ | refine zac rfl rfl ?_)
  exact zaa ⟨.inr rfl, _, rfl, rfl⟩
 | true =>
  repeat (first | refine zc1 rfl ?_ | refine za3 rfl ?_ | refine zaj rfl rfl rfl rfl ?_)
  refine zai rfl rfl p33 (fun h => Bool.noConfusion (show false = true from h)) ?_
  repeat (first | refine zc1 rfl ?_)
  refine zan rfl rfl rfl (fun h => ?_) fun h => ?_
  ·repeat (first | refine za4 ?_ | refine za5 ?_ | refine zad ?_ | refine za3 rfl ?_ | refine zaf rfl rfl ?_)
   exact zaa ⟨.inr rfl, _, rfl, by rw [Bool.true_and, decide_eq_true (by simpa using h)]; rfl⟩
  ·repeat (first | refine za4 ?_ | refine za5 ?_ | refine zad ?_ | refine za3 rfl ?_ | refine zaf rfl rfl ?_)
   exact zaa ⟨.inr rfl, _, rfl, by rw [Bool.true_and, decide_eq_false (by simpa using h)]; rfl⟩
def mxI (a b : Int) : Int := if b > a then b else a
mutual
def dpX : Ex → Int
 | .nd _ _ args => dpL 0 args + 1
def dpL (a : Int) : List Ex → Int
 | [] => a
 | y :: ys => dpL (mxI a (dpX y)) ys
end
theorem mxI_le {a b : Int} : a ≤ mxI a b ∧ b ≤ mxI a b := by unfold mxI; split <;> omega
theorem zo9 : ∀ (l : List Ex) (a : Int), a ≤ dpL a l
 | [], a => by rw [dpL]; omega
 | y :: ys, a => by
  rw [dpL]
  have := zo9 ys (mxI a (dpX y))
  have := @mxI_le a (dpX y)
  omega
theorem zhj : ∀ x : Ex, 1 ≤ dpX x
 | .nd op ix args => by rw [dpX]; have := zo9 args 0; omega
theorem zoa : ∀ (l : List Ex) (a : Int), 0 ≤ a → dpL a l = mxI a (dpL 0 l)
 | [], a, h => by rw [dpL, dpL]; unfold mxI; split <;> omega
 | y :: ys, a, h => by
  have hp := zhj y
  rw [dpL, dpL, zoa ys (mxI a (dpX y)) (by unfold mxI; split <;> omega), zoa ys (mxI 0 (dpX y)) (by unfold mxI; split <;> omega)]
  generalize dpL 0 ys = z at *
  unfold mxI
  repeat' split
  all_goals omega
mutual
theorem zrk : ∀ x : Ex, dpX x ≤ szX x
 | .nd op ix args => by
  rw [dpX, szX]
  have := dpL_sz args
  omega
theorem dpL_sz : ∀ l : List Ex, dpL 0 l ≤ szL l
 | [] => by rw [dpL, szL]; omega
 | y :: ys => by
  have h1 := zrk y
  have h2 := dpL_sz ys
  have h3 := zhj y
  have h4 := zbn ys
  have h5 := zdd y
  rw [dpL, szL, zoa _ _ (by unfold mxI; split <;> omega)]
  generalize dpL 0 ys = z at *
  unfold mxI
  repeat' split
  all_goals omega
end
mutual
theorem walkD : ∀ (x : Ex) (d n m : Int), 1 ≤ d → d ≤ 17 → 0 ≤ n → n + szX x ≤ 256 → zce (17 - d).toNat x = true → zch zec d x (n, m) = .inl (n + szX x, mxI m (d - 1 + dpX x))
 | .nd op ix args => fun d n m hd h17 h0 hn hb => by
  rw [szX] at hn ⊢
  rw [zch, dpX]
  have hs0 := zbn args
  have h16 : d ≤ 16 := by
   by_cases h : d ≤ 16
   ·exact h
   ·rw [show (17 - d).toNat = 0 by omega] at hb
    simp [zce] at hb
  rw [show (17 - d).toNat = (16 - d).toNat + 1 by omega, zen] at hb
  have hst : zec (n, m) d (.nd op ix args) = .inl (n + 1, zju m d) := by
   unfold zec
   rw [if_neg (by dsimp only; omega)]
  rw [hst]
  dsimp only
  rw [walkLD args d (n + 1) (zju m d) hd h16 (by omega) (by omega) hb (by unfold zju; split <;> omega), ← Int.add_assoc]
  have h1 := zo9 args 0
  generalize dpL 0 args = z at *
  have : mxI (zju m d) (d + z) = mxI m (d - 1 + (z + 1)) := by
   unfold mxI zju
   repeat' split
   all_goals omega
  rw [this]
theorem walkLD : ∀ (l : List Ex) (d n m : Int), 1 ≤ d → d ≤ 16 → 0 ≤ n → n + szL l ≤ 256 → l.all (zce (16 - d).toNat) = true → d ≤ m → zcc zec d l (n, m) = .inl (n + szL l, mxI m (d + dpL 0 l))
 | [] => fun d n m hd h16 h0 hn hb hm => by
  rw [szL, zcc, Int.add_zero, dpL]
  have : mxI m (d + 0) = m := by unfold mxI; split <;> omega
  rw [this]
 | y :: ys => fun d n m hd h16 h0 hn hb hm => by
  rw [szL] at hn ⊢
  have hp := zdd y
  have hq := zbn ys
  rw [List.all_cons, Bool.and_eq_true] at hb
  have hy := walkD y (d + 1) n m (by omega) (by omega) h0 (by omega) (by rw [show (17 - (d + 1)).toNat = (16 - d).toNat by omega]; exact hb.1)
  rw [zcc, if_pos h16, hy]
  dsimp only
  rw [walkLD ys d (n + szX y) _ hd h16 (by omega) (by omega) hb.2 (by have := @mxI_le m (d + 1 - 1 + dpX y); omega), dpL, ← Int.add_assoc]
  have h3 := zhj y
  have h4 := zo9 ys 0
  rw [zoa ys (mxI 0 (dpX y)) (by unfold mxI; split <;> omega)]
  generalize dpL 0 ys = z at *
  have : mxI (mxI m (d + 1 - 1 + dpX y)) (d + z) = mxI m (d + mxI (mxI 0 (dpX y)) z) := by
   unfold mxI
   repeat' split
   all_goals omega
  rw [this]
end
def zq3 (x : Ex) : AV := if zd2 x = true then .tup [.int .i64 (szX x), .int .i64 (dpX x), .int .i64 0] else .tup [.int .i64 0, .int .i64 0, .int .i64 5]
theorem zpv (x : Ex) : zfo x = if zd2 x = true then .tup [.int .i64 (szX x), .int .i64 (dpX x), .bool true] else .tup [.int .i64 0, .int .i64 0, .bool false] := by
 unfold zfo
 by_cases hl : zd2 x = true
 ·have h := (zck x).1 hl
  rw [if_pos hl, walkD x 1 0 0 (by omega) (by omega) (by omega) (by omega) h.2]
  dsimp only
  have h1 := zhj x
  have : mxI 0 (1 - 1 + dpX x) = dpX x := by unfold mxI; split <;> omega
  rw [this, Int.zero_add]
 ·have hw := walkM x 1 0 0 (by omega) (by omega) (by omega) (by omega)
  rw [Int.zero_add, show ((17 : Int) - 1).toNat = 16 from rfl, if_neg (fun h => hl ((zck x).2 h))] at hw
  rw [if_neg hl, hw]
theorem size27 (x : Ex) (hs : Slim x) : PF Try.prog 27 [.agg (cX x)] (zq3 x) := by
 have p47 := zls x hs
 rw [zpv] at p47
 unfold zq3
 generalize szX x = a at *
 generalize dpX x = b at *
 generalize zd2 x = c at *
 obtain ⟨op, ix, args⟩ := x
 refine zav env0_ok fn27 [(0, .agg (cX (.nd op ix args)))] (by show 1 ≤ 16; decide) rfl fun w0 N0 => ?_
 unfold ic27
 refine za6 (za0 rfl (zc5 rfl rfl (za3 rfl (za3 rfl (za3 rfl (za4 (za5 ?_)))))))
 refine zd3 [] [(0, 0, cX (.nd op ix args))] [(1, .vptr (cX (.nd op ix args)))] rfl (.cons rfl rfl .nil) .nil (.cons rfl (.fptr rfl rfl) .nil) ?_
 repeat (first | refine za6 ?_ | refine za0 rfl ?_ | refine zaj rfl rfl rfl rfl ?_)
 refine zai rfl rfl p47 (fun h => Bool.noConfusion (show false = true from h)) ?_
 cases c with
 | true =>
  rw [if_pos rfl, if_pos rfl]
  repeat (first | refine za6 ?_ | refine za0 rfl ?_ | refine za4 ?_ | refine za5 ?_ | refine zae ?_ | refine zbp rfl ?_ | refine zad ?_ | refine za3 rfl ?_ | refine zfz rfl rfl ?_ | refine zbx rfl rfl ?_)
  exact zaa ⟨.inr rfl, _, rfl, rfl⟩
 | false =>
  rw [if_neg Bool.false_ne_true, if_neg Bool.false_ne_true]
  repeat (first | refine za6 ?_ | refine za0 rfl ?_ | refine za4 ?_ | refine za5 ?_ | refine zbf rfl ?_ | refine zad ?_ | refine za7 ?_ | refine za3 rfl ?_ | refine zfz rfl rfl ?_ | refine zbx rfl rfl ?_)
  exact zaa ⟨.inr rfl, _, rfl, rfl⟩
end Go.Proofs.Ytmnkjofaodbokaa
namespace Go.Proofs.Ytmnkjofaodbokaa
open Go Go.Am
theorem zcf {f g : FuncId} {args bs : List AV} {v w : AV} {l : List (FuncId × List AV × AV)} (h : g ≠ f) (k : zeh l f args = some w) : zeh ((g, bs, v) :: l) f args = some w := by
 simp [zeh, h, k]
theorem dpL_drop {args : List Ex} {i : Nat} (h : i < args.length) (a : Int) : dpL a (args.drop i) = dpL (mxI a (dpX args[i])) (args.drop (i + 1)) := by
 rw [List.drop_eq_getElem_cons h, dpL]
theorem ztj {op ix : Int} {args : List Ex} {y : Ex} (h : y ∈ args) : szX y ≤ szX (.nd op ix args) := by
 rw [szX]
 have : ∀ l : List Ex, y ∈ l → szX y ≤ szL l := by
  intro l
  induction l with
  | nil => intro h; cases h
  | cons a l ih =>
   intro h
   rw [szL]
   have := zdd a
   have := zbn l
   rcases List.mem_cons.1 h with rfl | h
   ·omega
   ·have := ih h; omega
 have := this args h
 omega
set_option maxHeartbeats 2000000 in
theorem depth68 : ∀ (q : Nat) (x : Ex), SizeOf.sizeOf x ≤ q → szX x ≤ 256 → PF Try.prog 68 [.agg (cX x)] (.int .i64 (dpX x)) := by
 intro q
 induction q with
 | zero => intro x hq; cases x; simp at hq
 | succ q ih =>
  intro x hq hz
  have hdz := zrk x
  obtain ⟨op, ix, args⟩ := x
  have hlen := zg6 args
  have hszl : szL args ≤ 255 := by rw [szX] at hz; omega
  refine zav env0_ok fn68 [(0, .agg (cX (.nd op ix args)))] (by show 1 ≤ 22; decide) rfl fun w0 N0 => ?_
  unfold ic68
  rw [dpX] at hdz ⊢
  refine za6 (za0 rfl (zc5 rfl rfl (za3 rfl (za4 (za5 ?_)))))
  refine zd3 [] [(0, 0, cX (.nd op ix args))] [(1, .vptr (cX (.nd op ix args)))] rfl (.cons rfl rfl .nil) .nil (.cons rfl (.fptr rfl rfl) .nil) ?_
  repeat (first | refine za6 ?_ | refine za0 rfl ?_ | refine za4 ?_ | refine za5 ?_ | refine zam ?_ | refine za3 rfl ?_)
  refine zeb (fun mm S => ∃ i a, mm = args.length - i ∧ i ≤ args.length ∧ 0 ≤ a ∧ a ≤ 256 ∧ dpL 0 args = dpL a (args.drop i) ∧
    S = st 22 [(1, .vptr (cX (.nd op ix args))), (3, .int .i64 a), (4, .int .i64 (i : Nat))] [] 0 1) args.length
   (zau (.cons rfl (.cons rfl (.cons rfl .nil)))) ⟨0, 0, rfl, Nat.zero_le _, by omega, by omega, rfl, rfl⟩ ?_
  rintro mm S ⟨i, a, rfl, hi, ha0, ha1, hall, rfl⟩
  unfold b68_0
  repeat (first | refine za6 ?_ | refine za0 rfl ?_ | refine za3 rfl ?_ | refine zah rfl rfl ?_ | refine ze4 rfl rfl rfl ?_ | refine zc8 rfl rfl ?_)
  refine zan rfl rfl rfl (fun h3 => ?_) fun h3 => ?_
  ·have hlt : i < args.length := by
    have := of_decide_eq_true h3
    rw [zaq] at this
    omega
   rw [dpL_drop hlt] at hall
   have hge := zdy hlt
   have hmem : args[i] ∈ args := List.getElem_mem hlt
   have py := ih args[i] (by have := zih (op := op) (ix := ix) hmem; omega) (by have := ztj (op := op) (ix := ix) hmem; omega)
   have hyd := zrk args[i]
   have hyz := ztj (op := op) (ix := ix) hmem
   have hyp := zhj args[i]
   generalize args[i] = y at *
   generalize dpX y = dy at *
   obtain ⟨yo, yi, ya⟩ := y
   repeat (first | refine za6 ?_ | refine za0 rfl ?_ | refine za4 ?_ | refine za5 ?_ | refine zam ?_ | refine zae ?_ | refine zbf rfl ?_ | refine za3 rfl ?_ | refine zah rfl rfl ?_ | refine zaj rfl rfl rfl rfl ?_ | refine ze4 rfl rfl rfl ?_ | refine zea rfl rfl (by omega) (by assumption) rfl ?_)
   refine zai rfl rfl py (fun h => Bool.noConfusion (show false = true from h)) ?_
   refine zlu (r := mxI a dy) rfl rfl rfl ?_
   repeat (first | refine za0 rfl ?_ | refine za4 ?_ | refine za5 ?_ | refine zcb ?_ | refine za3 rfl ?_ | refine zd5 (op := .add) rfl rfl rfl ?_)
   rw [zbc i (by omega)]
   exact zcg (show args.length - (i + 1) < args.length - i by omega) (zau (.cons rfl (.cons rfl (.cons rfl .nil)))) ⟨i + 1, _, rfl, hlt, by unfold mxI; split <;> omega, by unfold mxI; split <;> omega, hall, rfl⟩
  ·have hi2 : i = args.length := by
    have := of_decide_eq_false h3
    rw [zaq] at this
    omega
   rw [hi2, List.drop_length, dpL] at hall
   repeat (first | refine za4 ?_ | refine za5 ?_ | refine zbp rfl ?_ | refine zdw ?_ | refine zb9 ?_)
   refine zgj ?_
   repeat (first | refine za6 ?_ | refine za0 rfl ?_ | refine za4 ?_ | refine za5 ?_ | refine zad ?_ | refine zdv ?_ | refine za3 rfl ?_ | refine zd5 (op := .add) rfl rfl rfl ?_)
   rw [show IntKind.wrap .i64 (a + 1) = a + 1 from wrap_small _ (by omega) (by omega)]
   exact zaa ⟨.inr rfl, _, rfl, by rw [hall]; rfl⟩
theorem size30 (x : Ex) (hs : Slim x) : PF Try.prog 30 [.agg (cX x)] (zq3 x) := by
 have p48 := zsj x hs
 unfold zq3
 have p67 := zmr _ x 256 (Nat.le_refl _) hs (by omega) (by omega)
 have p68 : zd2 x = true → PF Try.prog 68 [.agg (cX x)] (.int .i64 (dpX x)) := fun h => depth68 _ x (Nat.le_refl _) ((zck x).1 h).1
 have hc : zd2 x = true → cnt 256 x = szX x := fun h => by rw [zrc 256 (by omega), if_pos ((zck x).1 h).1]
 generalize cnt 256 x = cc at *
 generalize szX x = a at *
 generalize dpX x = b at *
 generalize zd2 x = c at *
 obtain ⟨op, ix, args⟩ := x
 refine zav env0_ok fn30 [(0, .agg (cX (.nd op ix args)))] (by show 1 ≤ 12; decide) rfl fun w0 N0 => ?_
 unfold ic30
 refine za6 (za0 rfl (zc5 rfl rfl (za3 rfl (za3 rfl (za3 rfl (za4 (za5 ?_)))))))
 refine zd3 [] [(0, 0, cX (.nd op ix args))] [(1, .vptr (cX (.nd op ix args)))] rfl (.cons rfl rfl .nil) .nil (.cons rfl (.fptr rfl rfl) .nil) ?_
 repeat (first | refine za6 ?_ | refine za0 rfl ?_ | refine zaj rfl rfl rfl rfl ?_)
 refine zai rfl rfl p48 (fun h => Bool.noConfusion (show false = true from h)) ?_
 cases c with
 | true =>
  have p68 := p68 rfl
  obtain rfl := hc rfl
  rw [if_pos rfl]
  repeat (first | refine za6 ?_ | refine za4 ?_ | refine za5 ?_ | refine zae ?_ | refine zbp rfl ?_ | refine zfz rfl rfl ?_)
  refine zfb env0_ok [(67, [.agg (cX (.nd op ix args)), .int .i64 256], .int .i64 cc), (68, [.agg (cX (.nd op ix args))], .int .i64 b)] (fun x hx => by
   rcases List.mem_cons.1 hx with rfl | hx
   ·exact p67
   obtain rfl := List.mem_singleton.1 hx
   exact p68) (fun f => Nat.beq f 67 || Nat.beq f 68) rfl rfl rfl ?_
  repeat (first | refine zaj rfl rfl rfl rfl ?_)
  refine zai rfl rfl zb7 (fun h => Bool.noConfusion (show false = true from h)) ?_
  repeat (first | refine zaj rfl rfl rfl rfl ?_)
  refine zai rfl rfl (zcf (by decide) zb7) (fun h => Bool.noConfusion (show false = true from h)) ?_
  repeat (first | refine za4 ?_ | refine za5 ?_ | refine zad ?_ | refine za3 rfl ?_)
  exact zaa ⟨.inr rfl, _, rfl, rfl⟩
 | false =>
  rw [if_neg Bool.false_ne_true]
  repeat (first | refine za6 ?_ | refine za0 rfl ?_ | refine za4 ?_ | refine za5 ?_ | refine zbf rfl ?_ | refine zad ?_ | refine za7 ?_ | refine za3 rfl ?_ | refine zfz rfl rfl ?_)
  exact zaa ⟨.inr rfl, _, rfl, rfl⟩
end Go.Proofs.Ytmnkjofaodbokaa
namespace Go.Proofs.Ytmnkjofaodbokaa
open Go Go.Am
def gZ (o : List Int) (v : Nat) : Int := o.getD v 0
def dnx (P : Nat → Bool) (m i : Nat) : Int := match ((List.range m).drop i).find? P with
 | some u => (u : Nat)
 | none => -1
theorem dnx_step {P : Nat → Bool} {m i : Nat} (h : i < m) : dnx P m i = if P i = true then ((i : Nat) : Int) else dnx P m (i + 1) := by
 unfold dnx
 rw [List.drop_eq_getElem_cons (by rw [List.length_range]; exact h), List.getElem_range, List.find?_cons]
 cases P i <;> rfl
theorem dnx_end (P : Nat → Bool) (m : Nat) : dnx P m m = -1 := by
 unfold dnx
 rw [List.drop_of_length_le (by rw [List.length_range]; exact Nat.le_refl _)]
 rfl
def Gv (b : Nat) (q : List Int) (w : AV) (hp : List (Nat × Nat × AObj)) (nx : Nat) : Prop :=
 (q = [] ∧ w = .nils) ∨ ∃ id sp, w = .ms id sp 1 0 q.length none ∧ Am.look id hp = some (sp, .cells (q.map (AV.int .i64))) ∧ b < id ∧ id < nx
section
variable {b nx : Nat} {q : List Int} {w : AV} {hp : List (Nat × Nat × AObj)}
theorem Gv.fresh (h : Gv b q w hp nx) (ck : Nat) (x : AObj) : Gv b q w ((nx, ck, x) :: hp) (nx + 1) := by
 rcases h with h | ⟨id, sp, e, hl, h1, h2⟩
 ·exact .inl h
 ·exact .inr ⟨id, sp, e, by rw [zal, if_neg (by omega)]; exact hl, h1, by omega⟩
theorem Gv.put (h : Gv b q w hp nx) {i : Nat} (hi : i ≤ b) (x : Nat × AObj) : Gv b q w (zb5 i x hp) nx := by
 rcases h with h | ⟨id, sp, e, hl, h1, h2⟩
 ·exact .inl h
 ·exact .inr ⟨id, sp, e, by rw [za1, if_neg (by omega)]; exact hl, h1, h2⟩
theorem Gv.view {S : AS} {d : Nat} (h : Gv b q w S.heap nx) : S.view (d + 1) w = vsI q := by
 rcases h with ⟨rfl, rfl⟩ | ⟨id, sp, rfl, hl, _, _⟩
 ·rfl
 ·exact zts q rfl hl
theorem o_gapp {w0 : World} {N0 n d ck : Nat} {md : Md} {k : List Fr} {Q : Exit → AS → Prop} {l : List (Nat × AV)} {ios : List Opr} {bytes j sj : Nat} {x0 : Int} {z : List AV} {s x : Arg} (hF : Gv b q w hp nx) (hbn : b < nx) (hlen : q.length ≤ 1000000) (hs : zba s l = some w) (hx : zba x l = some (.ms j sj 1 0 1 (some 1))) (hj : Am.look j hp = some (sj, .cells [.int .i64 x0])) (hb : bytes ≤ 16777216)
  (go : ∀ w' hp' nx' ck', Gv b (q ++ [x0]) w' hp' nx' → b < nx' → (∀ i, i ≤ b → Am.look i hp' = Am.look i hp) → Om Try.prog w0 N0 md (KnP Try.prog w0 N0) ios (st n ((d, w') :: l) hp' nx' ck') k Q) :
  Om Try.prog w0 N0 md (KnP Try.prog w0 N0) (⟨some d, .append 1 bytes z s x, none⟩ :: ios) (st n l hp nx ck) k Q := by
 have hel : ∀ l, (st n l hp nx ck []).elems 1 (.ms j sj 1 0 1 (some 1)) = some [[.int .i64 x0]] := fun l => zjw (xs := [[.int .i64 x0]]) (ys := []) hj rfl fun x hx => by obtain rfl := List.mem_singleton.1 hx; rfl
 rcases hF with ⟨rfl, rfl⟩ | ⟨id, sp, rfl, hl, h1, h2⟩
 ·have hi : iop (st n l hp nx ck) (.append 1 bytes z s x) = some (.ms nx ck 1 0 1 none, st n l ((nx, ck, .cells [.int .i64 x0]) :: hp) (nx + 1) (ck + 1)) := by
   simp only [iop, zb2, hs, hx, hel]
   unfold zcj
   rw [if_neg (show ¬ [[AV.int .i64 x0]].length = 0 from Nat.succ_ne_zero 0), if_pos (show [[AV.int .i64 x0]].flatten.all AV.isCell = true ∧ bytes ≤ 16777216 from ⟨rfl, hb⟩)]
   rfl
  exact zew hi (go _ _ _ _ (.inr ⟨nx, ck, rfl, zat, hbn, Nat.lt_succ_self _⟩) (by omega) fun i hi => by rw [zal, if_neg (by omega)]) (fun _ _ _ _ _ _ _ => rfl)
 ·refine zi6 [[.int .i64 x0]] hs hx (hel _) (fun h => Nat.noConfusion h) rfl hb hl (by rw [List.length_map, Nat.mul_one]) (by show _ + 1 ≤ _; omega) ?_ (fun _ _ _ _ _ _ _ => rfl)
  refine go _ _ _ _ (.inr ⟨id, ck, by rw [List.length_append]; rfl, by rw [za1, if_pos rfl, List.map_append]; rfl, h1, h2⟩) hbn fun i hi => by rw [za1, if_neg (by omega)]
end
theorem gZ_at {o : List Int} {i : Nat} (h : i < o.length) : o[i] = gZ o i := by
 unfold gZ
 rw [List.getD_eq_getElem?_getD, List.getElem?_eq_getElem h]
 rfl
def b66_0 : IC := .seq (.region [⟨(some 9), .bin .lss (.t 8) (.t 7), none⟩] none)
 (.seq (.cond (.t 9) (.skip)
 (.exit 0))
 (.seq (.block 1 (.seq (.region [⟨(some 10), .mov (.t 8), none⟩,
  ⟨(some 5), .mov (.t 10), none⟩] none)
 (.seq (.region [⟨(some 11), .mov (.t 1), none⟩,
  ⟨(some 12), .mov (.t 0), none⟩,
  ⟨(some 13), .mov (.t 5), none⟩,
  ⟨(some 14), .idxs 1 (.t 12) (.t 13), none⟩,
  ⟨(some 15), .load none (.t 14), none⟩,
  ⟨(some 16), .bin .eql (.t 11) (.t 15), none⟩] none)
 (.cond (.t 16) (.seq (.region [⟨(some 17), .mov (.t 5), none⟩,
  ⟨(some 4), .mov (.t 17), none⟩] none)
 (.ret))
 (.skip)))))
 (.region [⟨(some 18), .bin .add (.t 8) (.c (.int .i64 1)), none⟩,
  ⟨(some 8), .mov (.t 18), none⟩] none)))
-- slices.Index[[]int,int]
def ic66 : IC := .seq (.region [⟨(some 4), .mov (.c (.int .i64 0)), none⟩] none)
 (.seq (.seq (.region [⟨(some 6), .mov (.t 0), none⟩,
  ⟨(some 7), .len false (.t 6), none⟩,
  ⟨(some 8), .mov (.c (.int .i64 0)), none⟩] none)
 (.block 0 (.loop b66_0)))
 (.seq (.region [⟨(some 4), .mov (.c (.int .i64 (-1))), none⟩] none)
 (.ret)))
theorem fn66 : env0.fn 66 = some ⟨19, ic66, [.t 4]⟩ := by kernel_rfl
set_option maxHeartbeats 1000000 in
theorem index66 (a : List Int) (x : Int) (ha : a.length ≤ 1000000) : PF Try.prog 66 [vsI a, .int .i64 x] (.int .i64 (dnx (fun i => gZ a i == x) a.length 0)) := by
 have hva : (a.map fun z => ([.int .i64 z] : List AV)).length = a.length := List.length_map ..
 refine zav env0_ok fn66 [(0, vsI a), (1, .int .i64 x)] (by show 2 ≤ 19; decide) rfl fun w0 N0 => ?_
 unfold ic66
 repeat (first | refine za6 ?_ | refine za0 rfl ?_ | refine za4 ?_ | refine za5 ?_ | refine zam ?_ | refine za3 rfl ?_ | refine zc8 rfl rfl ?_)
 refine zeb (fun mm S => ∃ i, mm = a.length - i ∧ i ≤ a.length ∧ dnx (fun i => gZ a i == x) a.length i = dnx (fun i => gZ a i == x) a.length 0 ∧ S = st 19 [(0, vsI a), (1, .int .i64 x), (7, .int .i64 (a.length : Nat)), (8, .int .i64 (i : Nat))] [] 0 0) a.length
  (zau (.cons rfl (.cons rfl (.cons (by rw [← hva]; rfl) (.cons rfl .nil))))) ⟨0, rfl, Nat.zero_le _, rfl, rfl⟩ ?_
 rintro mm S ⟨i, rfl, hi, hd, rfl⟩
 unfold b66_0
 repeat (first | refine za6 ?_ | refine za0 rfl ?_)
 refine zan rfl rfl rfl (fun h3 => ?_) fun h3 => ?_
 ·have hlt : i < a.length := Int.ofNat_lt.1 (of_decide_eq_true h3)
  have w1 : IntKind.wrap .i64 (((i : Nat) : Int) + 1) = ((i + 1 : Nat) : Int) := zbc i (by omega)
  have hg : (a.map fun z => ([.int .i64 z] : List AV))[((i : Nat) : Int).toNat]? = some [.int .i64 (gZ a i)] := by rw [ztu hlt, gZ_at]
  rw [dnx_step hlt] at hd
  repeat (first | refine za6 ?_ | refine za0 rfl ?_ | refine za4 ?_ | refine za5 ?_ | refine zam ?_ | refine zae ?_ | refine zbf rfl ?_ | refine za3 rfl ?_ | refine zah rfl rfl ?_ | refine zea rfl rfl (by omega) (by assumption) rfl ?_)
  refine zan rfl rfl rfl (fun h4 => ?_) fun h4 => ?_
  ·have h4 : x = gZ a i := by simpa using h4
   rw [if_pos (by simp [h4])] at hd
   rw [← hd]
   repeat (first | refine za6 ?_ | refine za0 rfl ?_ | refine za4 ?_ | refine za5 ?_ | refine zbf rfl ?_ | refine zad ?_ | refine za7 ?_ | refine zar ?_ | refine za3 rfl ?_)
   exact zaa ⟨.inr rfl, _, rfl, rfl⟩
  ·have h4 : ¬ x = gZ a i := by simpa using h4
   rw [if_neg (by simp; exact fun e => h4 e.symm)] at hd
   repeat (first | refine za0 rfl ?_ | refine za4 ?_ | refine za5 ?_ | refine zcb ?_ | refine zae ?_ | refine zbp rfl ?_ | refine za3 rfl ?_ | refine zd5 (op := .add) rfl rfl rfl ?_)
   rw [w1]
   exact zcg (show a.length - (i + 1) < a.length - i by omega) (zau (.cons rfl (.cons rfl (.cons rfl (.cons rfl .nil))))) ⟨i + 1, rfl, hlt, hd, rfl⟩
 ·have hi2 : i = a.length := by
   have : ¬ i < a.length := fun h => of_decide_eq_false h3 (Int.ofNat_lt.2 h)
   omega
  subst hi2
  rw [dnx_end] at hd
  rw [← hd]
  repeat (first | refine za6 ?_ | refine za4 ?_ | refine za5 ?_ | refine zbp rfl ?_ | refine zdw ?_ | refine zb9 ?_)
  refine zgj ?_
  repeat (first | refine za6 ?_ | refine za0 rfl ?_ | refine za4 ?_ | refine za5 ?_ | refine zad ?_ | refine zdv ?_ | refine za3 rfl ?_)
  exact zaa ⟨.inr rfl, _, rfl, rfl⟩
theorem dnx_ge {P : Nat → Bool} {m : Nat} : dnx P m 0 ≥ 0 ↔ ∃ i, i < m ∧ P i = true := by
 unfold dnx
 rw [List.drop_zero]
 constructor
 ·intro h
  split at h
  ·rename_i u hu
   exact ⟨u, List.mem_range.1 (List.mem_of_find?_eq_some hu), List.find?_some hu⟩
  ·omega
 ·rintro ⟨i, h1, h2⟩
  split
  ·omega
  ·rename_i hn
   exact absurd h2 (List.find?_eq_none.1 hn i (List.mem_range.2 h1))
theorem dnx_has (a : List Int) (x : Int) : decide (dnx (fun i => gZ a i == x) a.length 0 ≥ 0) = a.contains x := by
 rw [Bool.eq_iff_iff, decide_eq_true_eq, dnx_ge, List.contains_iff_mem]
 constructor
 ·rintro ⟨i, h1, h2⟩
  rw [beq_iff_eq, ← gZ_at h1] at h2
  rw [← h2]
  exact List.getElem_mem h1
 ·intro h
  obtain ⟨i, h1, h2⟩ := List.mem_iff_getElem.1 h
  exact ⟨i, h1, by rw [beq_iff_eq, ← gZ_at h1]; exact h2⟩
-- slices.Contains[[]int,int]
def ic29 : IC := .seq (.region [⟨(some 4), .mov (.c (.bool false)), none⟩] none)
 (.seq (.region [⟨(some 5), .mov (.t 0), none⟩,
  ⟨(some 6), .mov (.t 1), none⟩,
  ⟨(some 7), .call (.c (.fn 66 [] [])) [(.t 5), (.t 6)], none⟩,
  ⟨(some 8), .bin .geq (.t 7) (.c (.int .i64 0)), none⟩,
  ⟨(some 4), .mov (.t 8), none⟩] none)
 (.ret))
theorem fn29 : env0.fn 29 = some ⟨9, ic29, [.t 4]⟩ := by kernel_rfl
set_option maxHeartbeats 1000000 in
theorem zpn (a : List Int) (x : Int) (ha : a.length ≤ 1000000) : PF Try.prog 29 [vsI a, .int .i64 x] (.bool (a.contains x)) := by
 have p26 := index66 a x ha
 have hh := dnx_has a x
 generalize dnx (fun i => gZ a i == x) a.length 0 = d at *
 refine zav env0_ok fn29 [(0, vsI a), (1, .int .i64 x)] (by show 2 ≤ 9; decide) rfl fun w0 N0 => ?_
 unfold ic29
 repeat (first | refine za6 ?_ | refine za0 rfl ?_ | refine za4 ?_ | refine za5 ?_ | refine za3 rfl ?_)
 refine zai rfl rfl p26 (fun h => Bool.noConfusion (show false = true from h)) ?_
 refine zan rfl rfl rfl (fun h => ?_) fun h => ?_
 ·rw [← hh, show decide (d ≥ 0) = true from h]
  repeat (first | refine za4 ?_ | refine za5 ?_ | refine zad ?_ | refine za3 rfl ?_)
  exact zaa ⟨.inr rfl, _, rfl, rfl⟩
 ·rw [← hh, show decide (d ≥ 0) = false from h]
  repeat (first | refine za4 ?_ | refine za5 ?_ | refine zad ?_ | refine za3 rfl ?_)
  exact zaa ⟨.inr rfl, _, rfl, rfl⟩
def b34_0 : IC := .seq (.region [⟨(some 14), .bin .lss (.t 13) (.t 12), none⟩] none)
 (.seq (.cond (.t 14) (.skip)
 (.exit 0))
 (.seq (.block 1 (.seq (.region [⟨(some 15), .mov (.t 13), none⟩,
  ⟨(some 5), .mov (.t 15), none⟩] none)
 (.seq (.region [⟨(some 16), .mov (.t 0), none⟩,
  ⟨(some 17), .mov (.t 5), none⟩,
  ⟨(some 18), .idxs 1 (.t 16) (.t 17), none⟩,
  ⟨(some 19), .load none (.t 18), none⟩,
  ⟨(some 20), .mov (.t 1), none⟩,
  ⟨(some 21), .mov (.t 5), none⟩,
  ⟨(some 22), .idxs 1 (.t 20) (.t 21), none⟩,
  ⟨(some 23), .load none (.t 22), none⟩,
  ⟨(some 24), .bin .neq (.t 19) (.t 23), none⟩] (some [[], [], [0, 1], [2], [], [], [4, 5], [6], [3, 7]]))
 (.cond (.t 24) (.seq (.region [⟨(some 4), .mov (.c (.bool false)), none⟩] none)
 (.ret))
 (.skip)))))
 (.region [⟨(some 25), .bin .add (.t 13) (.c (.int .i64 1)), none⟩,
  ⟨(some 13), .mov (.t 25), none⟩] none)))
-- slices.Equal[[]int,int]
def ic34 : IC := .seq (.region [⟨(some 4), .mov (.c (.bool false)), none⟩] none)
 (.seq (.seq (.region [⟨(some 6), .mov (.t 0), none⟩,
  ⟨(some 7), .len false (.t 6), none⟩,
  ⟨(some 8), .mov (.t 1), none⟩,
  ⟨(some 9), .len false (.t 8), none⟩,
  ⟨(some 10), .bin .neq (.t 7) (.t 9), none⟩] none)
 (.cond (.t 10) (.seq (.region [⟨(some 4), .mov (.c (.bool false)), none⟩] none)
 (.ret))
 (.skip)))
 (.seq (.seq (.region [⟨(some 11), .mov (.t 0), none⟩,
  ⟨(some 12), .len false (.t 11), none⟩,
  ⟨(some 13), .mov (.c (.int .i64 0)), none⟩] none)
 (.block 0 (.loop b34_0)))
 (.seq (.region [⟨(some 4), .mov (.c (.bool true)), none⟩] none)
 (.ret))))
theorem fn34 : env0.fn 34 = some ⟨26, ic34, [.t 4]⟩ := by kernel_rfl
set_option maxRecDepth 100000 in
theorem equal34 (a : List Int) (ha : a.length ≤ 1000000) : PF Try.prog 34 [vsI a, vsI a] (.bool true) := by
 have hva : (a.map fun z => ([.int .i64 z] : List AV)).length = a.length := List.length_map ..
 refine zav env0_ok fn34 [(0, vsI a), (1, vsI a)] (by show 2 ≤ 26; decide) rfl fun w0 N0 => ?_
 unfold ic34
 repeat (first | refine za6 ?_ | refine za0 rfl ?_ | refine za4 ?_ | refine za5 ?_ | refine za3 rfl ?_ | refine zc8 rfl rfl ?_)
 refine zci rfl rfl (by show some (AV.bool (!(_ == _))) = _; simp) ?_
 repeat (first | refine za6 ?_ | refine za0 rfl ?_ | refine za4 ?_ | refine za5 ?_ | refine zam ?_ | refine zae ?_ | refine zbp rfl ?_ | refine za3 rfl ?_ | refine zc8 rfl rfl ?_)
 refine zeb (fun mm S => ∃ i, mm = a.length - i ∧ i ≤ a.length ∧ S = st 26 [(0, vsI a), (1, vsI a), (12, .int .i64 (a.length : Nat)), (13, .int .i64 (i : Nat))] [] 0 0) a.length
  (zau (.cons rfl (.cons rfl (.cons (by rw [← hva]; rfl) (.cons rfl .nil))))) ⟨0, rfl, Nat.zero_le _, rfl⟩ ?_
 rintro mm S ⟨i, rfl, hi, rfl⟩
 unfold b34_0
 repeat (first | refine za6 ?_ | refine za0 rfl ?_)
 refine zan rfl rfl rfl (fun h3 => ?_) fun h3 => ?_
 ·have hlt : i < a.length := Int.ofNat_lt.1 (of_decide_eq_true h3)
  have hg := ztu hlt
  repeat (first | refine za6 ?_ | refine za0 rfl ?_ | refine za4 ?_ | refine za5 ?_ | refine zam ?_ | refine zae ?_ | refine zbf rfl ?_ | refine za3 rfl ?_)
  refine z_drawn0 env0_ok rfl rfl rfl ?_
  unfold vsI
  repeat (first | refine za3 rfl ?_ | refine zah rfl rfl ?_ | refine zea rfl rfl (by omega) (by assumption) rfl ?_)
  refine zci rfl rfl (by show some (AV.bool (!(a[i] == a[i]))) = _; simp) ?_
  repeat (first | refine za0 rfl ?_ | refine za4 ?_ | refine za5 ?_ | refine zcb ?_ | refine zae ?_ | refine zbp rfl ?_ | refine za3 rfl ?_ | refine zd5 (op := .add) rfl rfl rfl ?_)
  rw [zbc i (by omega)]
  exact zcg (show a.length - (i + 1) < a.length - i by omega) (zau (.cons rfl (.cons rfl (.cons rfl (.cons rfl .nil))))) ⟨i + 1, rfl, hlt, rfl⟩
 ·repeat (first | refine za6 ?_ | refine za4 ?_ | refine za5 ?_ | refine zbp rfl ?_ | refine zdw ?_ | refine zb9 ?_)
  refine zgj ?_
  repeat (first | refine za6 ?_ | refine za0 rfl ?_ | refine za4 ?_ | refine za5 ?_ | refine zad ?_ | refine zdv ?_ | refine za3 rfl ?_)
  exact zaa ⟨.inr rfl, _, rfl, rfl⟩
end Go.Proofs.Ytmnkjofaodbokaa
