/-
  R10, R11, R12, R13, R14, R15, R16, R17 in one text.; THE EXAMPLES OF THE CHAPTER.; LISTS OF NUMBERS AS THE MACHINE HOLDS THEM; LISTS THAT ARE GONE THROUGH.; SMALL EXPRESSIONS.; LISTS OF SMALL EXPRESSIONS.; RIGHT EXPRESSIONS; HOW MANY NODES THEY HAVE AND HOW DEEP THEY ARE.; A LIST OF NUMBERS THAT GROWS; slices.Index, Contains, Equal.; NAMES: letters, words, lists of words.; LISTS OF NAMES.; A BUILD
-/
import Derived.Test.YtmnkjofaodbokaaYX2
namespace Go.Proofs.Ytmnkjofaodbokaa
open Go Go.Am
mutual
def szX : Ex → Int
 | .nd _ _ args => 1 + szL args
def szL : List Ex → Int
 | [] => 0
 | y :: ys => szX y + szL ys
end
mutual
theorem zef : ∀ x : Ex, 1 ≤ szX x
 | .nd op ix args => by
  rw [szX]
  have := zc7 args
  omega
theorem zc7 : ∀ l : List Ex, 0 ≤ szL l
 | [] => by rw [szL]; exact Int.le_refl _
 | y :: ys => by
  rw [szL]
  have := zef y
  have := zc7 ys
  omega
end
theorem zfe : ∀ l : List Ex, (l.length : Int) ≤ szL l
 | [] => by rw [szL]; exact Int.le_refl _
 | y :: ys => by
  rw [szL, List.length_cons]
  have := zef y
  have := zfe ys
  omega
mutual
theorem zu7 : ∀ x : Ex, szX x ≤ 256 → Thin x
 | .nd op ix args => fun h => by
  rw [szX] at h
  have := zfe args
  exact .nd (by omega) (zpj args (by omega))
theorem zpj : ∀ l : List Ex, szL l ≤ 256 → ∀ y ∈ l, Thin y
 | [] => fun _ y hy => absurd hy List.not_mem_nil
 | x :: xs => fun h y hy => by
  rw [szL] at h
  have h1 := zef x
  have h2 := zc7 xs
  rcases List.mem_cons.1 hy with he | hm
  ·rw [he]
   exact zu7 x (by omega)
  ·exact zpj xs (by omega) y hm
end
mutual
theorem zru (most : Int) (h : 0 ≤ most) : ∀ x : Ex, cnt most x = if szX x ≤ most then szX x else most + 1
 | .nd op ix args => by
  rw [cnt, szX]
  exact zrs most h 1 (by omega) (by omega) args
theorem zrs (most : Int) (h : 0 ≤ most) (n : Int) (h1 : 1 ≤ n) (h2 : n ≤ most + 1) : ∀ l : List Ex, zn4 most n l = if n + szL l ≤ most then n + szL l else most + 1
 | [] => by
  rw [zn4, szL]
  split <;> omega
 | y :: ys => by
  rw [zn4, szL]
  have hy := zef y
  have hys := zc7 ys
  split
  ·have e := zru (most - n) (by omega) y
   have b := zjp (most - n) (by omega) y
   rw [zrs most h _ (by omega) (by omega) ys]
   split at e <;> rw [e] <;> (repeat' split) <;> omega
  ·rw [if_neg (by omega)]
   omega
end
theorem zgt (m : Nat) (op ix : Int) (args : List Ex) : zdg (m + 1) (.nd op ix args) = args.all (zdg m) := by
 rw [zdg]
 split
 ·rename_i h
  subst h
  cases args with
  | nil => rfl
  | cons a l => simp [zdg]
 ·rfl
def zdo (x : Ex) : Bool := decide (cnt 256 x ≤ 256) && zdg 16 x
theorem ze1 (x : Ex) : zdo x = true ↔ szX x ≤ 256 ∧ zdg 16 x = true := by
 unfold zdo
 rw [Bool.and_eq_true, decide_eq_true_iff, zru 256 (by omega)]
 constructor
 ·intro ⟨a, b⟩
  refine ⟨?_, b⟩
  split at a <;> omega
 ·intro ⟨a, b⟩
  exact ⟨by rw [if_pos a]; exact a, b⟩
mutual
theorem walkM : ∀ (x : Ex) (d n m : Int), 1 ≤ d → d ≤ 17 → 0 ≤ n → n ≤ 256 →
  if n + szX x ≤ 256 ∧ zdg (17 - d).toNat x = true then ∃ m', zem zf2 d x (n, m) = .inl (n + szX x, m') else zem zf2 d x (n, m) = .inr ()
 | .nd op ix args => fun d n m hd h17 h0 hn => by
  rw [zem, szX]
  unfold zf2
  have hs0 := zc7 args
  by_cases hs : n + 1 > 256 ∨ d > 16
  ·rw [if_pos hs, if_neg]
   intro ⟨a, b⟩
   rcases hs with hs | hs
   ·omega
   ·rw [show (17 - d).toNat = 0 by omega] at b
    simp [zdg] at b
  ·rw [if_neg hs, show (17 - d).toNat = (16 - d).toNat + 1 by omega, zgt, ← Int.add_assoc]
   exact walkLM args d (n + 1) (zkj m d) hd (by omega) (by omega) (by omega)
theorem walkLM : ∀ (l : List Ex) (d n m : Int), 1 ≤ d → d ≤ 16 → 0 ≤ n → n ≤ 256 →
  if n + szL l ≤ 256 ∧ l.all (zdg (16 - d).toNat) = true then ∃ m', zex zf2 d l (n, m) = .inl (n + szL l, m') else zex zf2 d l (n, m) = .inr ()
 | [] => fun d n m hd h16 h0 hn => by
  rw [szL, zex, if_pos ⟨by omega, rfl⟩, Int.add_zero]
  exact ⟨m, rfl⟩
 | y :: ys => fun d n m hd h16 h0 hn => by
  have hy := walkM y (d + 1) n m (by omega) (by omega) h0 hn
  rw [zex, if_pos h16, szL]
  rw [show (17 - (d + 1)).toNat = (16 - d).toNat by omega] at hy
  have hp := zef y
  have hq := zc7 ys
  by_cases hc : n + szX y ≤ 256 ∧ zdg (16 - d).toNat y = true
  ·rw [if_pos hc] at hy
   obtain ⟨m', hy⟩ := hy
   rw [hy, List.all_cons, hc.2, Bool.true_and, ← Int.add_assoc]
   exact walkLM ys d (n + szX y) m' hd h16 (by omega) hc.1
  ·rw [if_neg hc] at hy
   rw [hy, if_neg]
   intro ⟨a, b⟩
   rw [List.all_cons, Bool.and_eq_true] at b
   exact hc ⟨by omega, b.1⟩
end
mutual
theorem walkC (z : Int) : ∀ (x : Ex) (d : Int), 1 ≤ d → d ≤ 17 → zdg (17 - d).toNat x = true → zem (zmu z) d x () = if nds z x = 0 then .inl () else .inr (nds z x)
 | .nd op ix args => fun d hd h17 hb => by
  have h16 : d ≤ 16 := by
   by_cases h : d ≤ 16
   ·exact h
   ·rw [show (17 - d).toNat = 0 by omega] at hb
    simp [zdg] at hb
  rw [show (17 - d).toNat = (16 - d).toNat + 1 by omega, zgt] at hb
  rw [zem, nds]
  unfold zmu ztd
  by_cases h : zbq op ix args.length z = 0
  ·simp only [if_pos h]
   exact walkLC z args d hd h16 hb
  ·simp only [if_neg h]
theorem walkLC (z : Int) : ∀ (l : List Ex) (d : Int), 1 ≤ d → d ≤ 16 → l.all (zdg (16 - d).toNat) = true → zex (zmu z) d l () = if zqt z l = 0 then .inl () else .inr (zqt z l)
 | [] => fun d hd h16 hb => by rw [zex, zqt, if_pos rfl]
 | y :: ys => fun d hd h16 hb => by
  rw [List.all_cons, Bool.and_eq_true] at hb
  have hy := walkC z y (d + 1) (by omega) (by omega) (by rw [show (17 - (d + 1)).toNat = (16 - d).toNat by omega]; exact hb.1)
  rw [zex, if_pos h16, hy, zqt]
  by_cases h : nds z y = 0
  ·simp only [if_pos h]
   exact walkLC z ys d hd h16 hb.2
  ·simp only [if_neg h]
end
def zey (x : Ex) (n : Int) : Int := if n < 0 ∨ n > 256 then 2 else if zdo x = true then nds n x else 5
theorem zga (x : Ex) (n : Int) : zid x n = zey x n := by
 unfold zid zey
 split
 ·rfl
 ·have hw := walkM x 1 0 0 (by omega) (by omega) (by omega) (by omega)
  rw [Int.zero_add, show ((17 : Int) - 1).toNat = 16 from rfl] at hw
  by_cases hl : zdo x = true
  ·rw [if_pos ((ze1 x).1 hl)] at hw
   obtain ⟨m', hw⟩ := hw
   rw [hw, if_pos hl]
   dsimp only
   rw [walkC n x 1 (by omega) (by omega) ((ze1 x).1 hl).2]
   by_cases h : nds n x = 0
   ·rw [if_pos h]; exact h.symm
   ·rw [if_neg h]
  ·rw [if_neg (fun h => hl ((ze1 x).2 h))] at hw
   rw [hw, if_neg hl]
-- pneumatic/pneumaticref05.Light
def ic48 : IC := .seq (.region [⟨(some 1), .box (.t 0), none⟩,
  ⟨(some 2), .mov (.c (.bool false)), none⟩] none)
 (.seq (.region [⟨(some 3), .load (some 3) (.t 1), none⟩,
  ⟨(some 4), .call (.c (.fn 67 [] [])) [(.t 3), (.c (.int .i64 256))], none⟩,
  ⟨(some 5), .bin .leq (.t 4) (.c (.int .i64 256)), none⟩,
  ⟨(some 6), .mov (.t 5), none⟩,
  ⟨(some 7), .load (some 3) (.t 1), some (6, true)⟩,
  ⟨(some 8), .call (.c (.fn 78 [] [])) [(.t 7), (.c (.int .i64 16))], some (6, true)⟩,
  ⟨(some 9), .pick (.t 6) (.t 8) (.c (.bool false)), none⟩,
  ⟨(some 2), .mov (.t 9), none⟩] none)
 (.ret))
theorem fn48 : env0.fn 48 = some ⟨10, ic48, [.t 2]⟩ := by kernel_rfl
theorem znq (x : Ex) (hs : Slim x) : PF Try.prog 48 [.agg (cX x)] (.bool (zdo x)) := by
 have h72 := zrx _ x 256 (Nat.le_refl _) hs (by decide) (by decide)
 have h73 := deep73 16 x 16 rfl (by decide) hs
 have hl : zdo x = (decide (cnt 256 x ≤ 256) && zdg 16 x) := rfl
 rw [hl]
 obtain ⟨op, ix, args⟩ := x
 refine zbl env0_ok fn48 [(0, .agg (cX (.nd op ix args)))] (by show 1 ≤ 10; decide) rfl fun w0 N0 => ?_
 unfold ic48
 repeat (first | refine za7 ?_ | refine za0 rfl ?_ | refine za4 ?_ | refine za3 ?_ | refine za2 rfl ?_ | refine zap rfl rfl rfl rfl ?_ | refine zc5 rfl rfl ?_)
 refine zay rfl rfl h72 (fun h => Bool.noConfusion (show false = true from h)) ?_
 refine zar rfl rfl rfl (fun h1 => ?_) fun h1 => ?_
 ·rw [h1, Bool.true_and]
  repeat (first | refine zbz rfl ?_ | refine za2 rfl ?_ | refine zap rfl rfl rfl rfl ?_)
  refine zay rfl rfl h73 (fun h => Bool.noConfusion (show false = true from h)) ?_
  repeat (first | refine za4 ?_ | refine za3 ?_ | refine zae ?_ | refine za2 rfl ?_ | refine zag rfl rfl ?_)
  exact zad ⟨.inr rfl, _, rfl, rfl⟩
 ·rw [h1, Bool.false_and]
  repeat (first | refine za4 ?_ | refine za3 ?_ | refine zae ?_ | refine zcz rfl rfl ?_ | refine za2 rfl ?_ | refine zaa rfl rfl ?_)
  exact zad ⟨.inr rfl, _, rfl, rfl⟩
-- pneumatic/pneumaticref05.Check
def ic33 : IC := .seq (.region [⟨(some 2), .box (.t 0), none⟩,
  ⟨(some 4), .mov (.c (.int .i64 0)), none⟩] none)
 (.seq (.seq (.region [⟨(some 5), .mov (.t 1), none⟩,
  ⟨(some 6), .bin .lss (.t 5) (.c (.int .i64 0)), none⟩,
  ⟨(some 7), .mov (.t 6), none⟩,
  ⟨(some 8), .mov (.t 1), some (7, false)⟩,
  ⟨(some 9), .bin .gtr (.t 8) (.c (.int .i64 256)), some (7, false)⟩,
  ⟨(some 10), .pick (.t 7) (.c (.bool true)) (.t 9), none⟩] none)
 (.cond (.t 10) (.seq (.region [⟨(some 4), .mov (.c (.int .i64 2)), none⟩] none)
 (.ret))
 (.skip)))
 (.seq (.seq (.region [⟨(some 11), .load (some 3) (.t 2), none⟩,
  ⟨(some 12), .call (.c (.fn 48 [] [])) [(.t 11)], none⟩,
  ⟨(some 13), .un .not (.t 12), none⟩] none)
 (.cond (.t 13) (.seq (.region [⟨(some 4), .mov (.c (.int .i64 5)), none⟩] none)
 (.ret))
 (.skip)))
 (.seq (.region [⟨(some 14), .load (some 3) (.t 2), none⟩,
  ⟨(some 15), .mov (.t 1), none⟩,
  ⟨(some 16), .call (.c (.fn 71 [] [])) [(.t 14), (.t 15)], none⟩,
  ⟨(some 4), .mov (.t 16), none⟩] none)
 (.ret))))
theorem fn33 : env0.fn 33 = some ⟨17, ic33, [.t 4]⟩ := by kernel_rfl
theorem check60 (x : Ex) (hs : Slim x) (n : Int) : PF Try.prog 33 [.agg (cX x), .int .i64 n] (.int .i64 (zey x n)) := by
 have h47 := znq x hs
 have h89 : zdo x = true → PF Try.prog 71 [.agg (cX x), .int .i64 n] (.int .i64 (nds n x)) := fun h => nodes89 n _ x (Nat.le_refl _) (zu7 x ((ze1 x).1 h).1)
 obtain ⟨op, ix, args⟩ := x
 refine zbl env0_ok fn33 [(0, .agg (cX (.nd op ix args))), (1, .int .i64 n)] (by show 2 ≤ 17; decide) rfl fun w0 N0 => ?_
 unfold ic33 zey
 repeat (first | refine za7 ?_ | refine za0 rfl ?_ | refine za4 ?_ | refine za3 ?_ | refine za2 rfl ?_ | refine zc5 rfl rfl ?_)
 refine zar rfl rfl rfl (fun h1 => ?_) fun h1 => ?_
 ·rw [if_pos (.inl (of_decide_eq_true h1))]
  repeat (first | refine za7 ?_ | refine za0 rfl ?_ | refine za4 ?_ | refine za3 ?_ | refine zbe rfl ?_ | refine zae ?_ | refine za6 ?_ | refine zcz rfl rfl ?_ | refine za2 rfl ?_ | refine zag rfl rfl ?_)
  exact zad ⟨.inr rfl, _, rfl, rfl⟩
 repeat (first | refine zbz rfl ?_ | refine za2 rfl ?_)
 refine zar rfl rfl rfl (fun h2 => ?_) fun h2 => ?_
 ·rw [if_pos (.inr (of_decide_eq_true h2))]
  repeat (first | refine za7 ?_ | refine za0 rfl ?_ | refine za4 ?_ | refine za3 ?_ | refine zbe rfl ?_ | refine zae ?_ | refine za6 ?_ | refine za2 rfl ?_ | refine zaa rfl rfl ?_)
  exact zad ⟨.inr rfl, _, rfl, rfl⟩
 rw [if_neg (fun h => h.elim (of_decide_eq_false h1) (of_decide_eq_false h2))]
 repeat (first | refine za7 ?_ | refine za0 rfl ?_ | refine za4 ?_ | refine za3 ?_ | refine zab ?_ | refine zbi rfl ?_ | refine zap rfl rfl rfl rfl ?_ | refine zaa rfl rfl ?_)
 cases hl : zdo (.nd op ix args) with
 | true =>
  rw [hl] at h47
  rw [if_pos rfl]
  refine zay rfl rfl h47 (fun h => Bool.noConfusion (show false = true from h)) ?_
  repeat (first | refine za7 ?_ | refine za0 rfl ?_ | refine za4 ?_ | refine za3 ?_ | refine zab ?_ | refine zbi rfl ?_ | refine za2 rfl ?_ | refine zap rfl rfl rfl rfl ?_ | refine ze6 rfl rfl ?_)
  refine zay rfl rfl (h89 hl) (fun h => Bool.noConfusion (show false = true from h)) ?_
  repeat (first | refine za4 ?_ | refine za3 ?_ | refine zae ?_ | refine za2 rfl ?_)
  exact zad ⟨.inr rfl, _, rfl, rfl⟩
 | false =>
  rw [hl] at h47
  rw [if_neg (by simp)]
  refine zay rfl rfl h47 (fun h => Bool.noConfusion (show false = true from h)) ?_
  repeat (first | refine za7 ?_ | refine za0 rfl ?_ | refine za4 ?_ | refine za3 ?_ | refine zbe rfl ?_ | refine zae ?_ | refine za6 ?_ | refine za2 rfl ?_ | refine ze6 rfl rfl ?_)
  exact zad ⟨.inr rfl, _, rfl, rfl⟩
end Go.Proofs.Ytmnkjofaodbokaa
namespace Go.Proofs.Ytmnkjofaodbokaa
open Go Go.Am
theorem zfg {n op ix : Int} {args : List Ex} (h : nds n (.nd op ix args) = 0) : zbq op ix args.length n = 0 ∧ ∀ y ∈ args, nds n y = 0 := by
 rw [nds] at h
 split at h
 ·rename_i h1
  refine ⟨h1, ?_⟩
  clear h1
  induction args with
  | nil => exact fun _ hy => absurd hy List.not_mem_nil
  | cons y ys ih =>
   rw [zqt] at h
   split at h
   ·rename_i h2
    intro z hz
    rcases List.mem_cons.1 hz with rfl | hm
    ·exact h2
    ·exact ih h z hm
   ·rename_i h2; exact absurd h h2
 ·rename_i h1; exact absurd h h1
theorem zfh {op ix k n : Int} (h : zbq op ix k n = 0) : 0 ≤ op ∧ op < 5 ∧ zb2 op ≤ k ∧ k ≤ zc1 op ∧ 0 ≤ ix ∧ ix ≤ zbg op n := by
 unfold zbq at h
 split at h
 ·exact absurd h (by decide)
 ·split at h
  ·exact absurd h (by decide)
  ·split at h
   ·exact absurd h (by decide)
   ·omega
end Go.Proofs.Ytmnkjofaodbokaa
namespace Go.Proofs.Ytmnkjofaodbokaa
open Go Go.Am
section
variable {σ τ : Type} {step : σ → Bool → σ ⊕ τ} {M : Nat → Prop} {I : σ → HS → Prop} {J : τ → HS → Prop}
end
noncomputable def ca119 : Code := match env0.fn 119 with
 | some i => ((zd2 i.ic).headD (.skip, .skip)).1
 | none => .skip
noncomputable def cb119 : Code := match env0.fn 119 with
 | some i => ((zd2 i.ic).headD (.skip, .skip)).2
 | none => .skip
structure I115 (ltm : List (Nat × AV)) (_ : Unit) (H : HS) : Prop where
 nx : 3 ≤ H.next
 h2 : Am.look 2 H.heap = some (2, .loop .ready none 10 (zeg ltm) [6] ca119 cb119 (1, 1))
 h1 : Am.look 1 H.heap = some (1, .deferred)
 h0 : Am.look 0 H.heap = some (0, .cells [.bool false])
structure J115 (_ : Unit) (H : HS) : Prop where
 nx : 3 ≤ H.next
 h2 : ∃ tm, Am.look 2 H.heap = some (2, .loop .done (some .ret) 10 tm [6] ca119 cb119 (1, 1))
 h1 : Am.look 1 H.heap = some (1, .deferred)
 h0 : Am.look 0 H.heap = some (0, .cells [.bool false])
end Go.Proofs.Ytmnkjofaodbokaa
namespace Go.Proofs.Ytmnkjofaodbokaa
open Go Go.Am
theorem nds_of {x : Ex} {n : Int} (h : zey x n = 0) : nds n x = 0 := by
 unfold zey at h
 split at h
 ·exact absurd h (by decide)
 ·split at h
  ·exact h
  ·exact absurd h (by decide)
end Go.Proofs.Ytmnkjofaodbokaa
namespace Go.Proofs.Ytmnkjofaodbokaa
open Go Go.Am
end Go.Proofs.Ytmnkjofaodbokaa
namespace Go.Proofs.Ytmnkjofaodbokaa
open Go Go.Am
def wkV (i : Int) : Ex := .nd 1 i []
def wkA : Ex := .nd 3 0 [wkV 0, .nd 2 0 [.nd 4 0 [wkV 1, wkV 2]]]
def wkB : Ex := .nd 3 0 [wkV 0, .nd 3 0 [wkV 1, .nd 0 1 []], wkV 0]
def wkC : Ex := .nd 3 0 [wkV 0, wkV 1]
def wkD : Ex := .nd 4 0 [wkV 0, .nd 2 0 [wkV 0]]
theorem zfq (i : Int) : Slim (wkV i) := .nd (by decide) (fun _ h => by cases h)
theorem slimA : Slim wkA := .nd (by decide) fun y hy => by
 simp only [List.mem_cons, List.not_mem_nil, or_false] at hy
 rcases hy with rfl | rfl
 ·exact zfq 0
 ·refine .nd (by decide) fun y hy => ?_
  obtain rfl := List.mem_singleton.1 hy
  refine .nd (by decide) fun y hy => ?_
  simp only [List.mem_cons, List.not_mem_nil, or_false] at hy
  rcases hy with rfl | rfl
  ·exact zfq 1
  ·exact zfq 2
theorem slimB' : Slim wkB := .nd (by decide) fun y hy => by
 simp only [List.mem_cons, List.not_mem_nil, or_false] at hy
 rcases hy with rfl | rfl | rfl
 ·exact zfq 0
 ·refine .nd (by decide) fun y hy => ?_
  simp only [List.mem_cons, List.not_mem_nil, or_false] at hy
  rcases hy with rfl | rfl
  ·exact zfq 1
  ·exact .nd (by decide) (fun _ h => by cases h)
 ·exact zfq 0
theorem slimC : Slim wkC := .nd (by decide) fun y hy => by
 simp only [List.mem_cons, List.not_mem_nil, or_false] at hy
 rcases hy with rfl | rfl
 ·exact zfq 0
 ·exact zfq 1
theorem slimD : Slim wkD := .nd (by decide) fun y hy => by
 simp only [List.mem_cons, List.not_mem_nil, or_false] at hy
 rcases hy with rfl | rfl
 ·exact zfq 0
 ·refine .nd (by decide) fun y hy => ?_
  obtain rfl := List.mem_singleton.1 hy
  exact zfq 0
def tabC : Tab := [(32, [
 ([.agg [.int .i64 3, .int .i64 0, .vs [[.int .i64 1, .int .i64 0, .vs []], [.int .i64 2, .int .i64 0, .vs [[.int .i64 4, .int .i64 0, .vs [[.int .i64 1, .int .i64 1, .vs []], [.int .i64 1, .int .i64 2, .vs []]]]]]]], .int .i64 3], .int .i64 0),
 ([.agg [.int .i64 3, .int .i64 0, .vs [[.int .i64 1, .int .i64 0, .vs []], [.int .i64 3, .int .i64 0, .vs [[.int .i64 1, .int .i64 1, .vs []], [.int .i64 0, .int .i64 1, .vs []]]], [.int .i64 1, .int .i64 0, .vs []]]], .int .i64 3], .int .i64 0),
 ([.agg [.int .i64 3, .int .i64 0, .vs [[.int .i64 1, .int .i64 0, .vs []], [.int .i64 1, .int .i64 1, .vs []]]], .int .i64 3], .int .i64 0),
 ([.agg [.int .i64 4, .int .i64 0, .vs [[.int .i64 1, .int .i64 0, .vs []], [.int .i64 2, .int .i64 0, .vs [[.int .i64 1, .int .i64 0, .vs []]]]]], .int .i64 3], .int .i64 0)])]
theorem tabC_ok : TabOk Try.prog tabC := by
 intro x hx y hy
 unfold tabC at hx
 obtain rfl := List.mem_singleton.1 hx
 simp only [List.mem_cons, List.not_mem_nil, or_false] at hy
 have key : ∀ e : Ex, Slim e → zid e 3 = 0 → PF Try.prog 32 [.agg (cX e), .int .i64 3] (.int .i64 0) := fun e hs h => by
  have := zrp e hs 3
  rwa [h] at this
 rcases hy with rfl | rfl | rfl | rfl
 ·exact key wkA slimA (by rw [zga]; kernel_rfl)
 ·exact key wkB slimB' (by rw [zga]; kernel_rfl)
 ·exact key wkC slimC (by rw [zga]; kernel_rfl)
 ·exact key wkD slimD (by rw [zga]; kernel_rfl)
def tabA : Tab := [
 (13, [
  ([], .bool true)])]
theorem tabA_ok : TabOk Try.prog tabA := TabOk.of_run (env0_ok.tab tabC_ok (pure := [])) (n := 80) (by kernel_rfl)
theorem zkf : PF Try.prog 13 [] (.bool true) := tabA_ok _ (List.mem_cons_self ..) _ (List.mem_cons_self ..)
end Go.Proofs.Ytmnkjofaodbokaa
namespace Go.Proofs.Ytmnkjofaodbokaa
open Go Go.Am
def vsI (l : List Int) : AV := .vs (l.map fun z => [.int .i64 z])
theorem zse (l : List Int) : (l.map (AV.int .i64)) = (l.map fun z => ([.int .i64 z] : List AV)).flatten := by
 induction l with
 | nil => rfl
 | cons z l ih => simpa using ih
theorem zuc {S : AS} {d id sp len : Nat} {cap : Option Nat} {J : List AV} (a : List Int) (hn : a.length = len) (hl : Am.look id S.heap = some (sp, .cells (a.map (AV.int .i64) ++ J))) : S.view (d + 1) (.ms id sp 1 0 len cap) = vsI a := by
 subst hn
 have e : S.elems 1 (.ms id sp 1 0 a.length cap) = some (a.map fun z => ([.int .i64 z] : List AV)) := by
  obtain ⟨n, t, hp, nx, ck, mk⟩ := S
  exact zhj (ys := J) (cap := cap) (n := n) (nx := nx) (ck := ck) (mk := mk) (l := []) (hp := hp) (by rw [← zse]; exact hl) (List.length_map ..) (fun x hx => by obtain ⟨s, _, rfl⟩ := List.mem_map.1 hx; rfl)
 simp only [AS.view, e]
 unfold vsI
 congr 1
 rw [List.map_map]
 apply List.map_congr_left
 intro s _
 cases d <;> rfl
theorem zua {S : AS} {d id sp len : Nat} {cap : Option Nat} (a : List Int) (hn : a.length = len) (hl : Am.look id S.heap = some (sp, .cells (a.map (AV.int .i64)))) : S.view (d + 1) (.ms id sp 1 0 len cap) = vsI a :=
 zuc (J := []) a hn (by rw [List.append_nil]; exact hl)
theorem Keep.mono {M M' : Nat → Prop} {H H' : HS} (h : Keep M H H') (hm : ∀ i, M i → M' i) : Keep M' H H' :=
 ⟨h.next, h.clk, fun i hi => h.look i fun h => hi (hm i h)⟩
end Go.Proofs.Ytmnkjofaodbokaa
namespace Go.Proofs.Ytmnkjofaodbokaa
open Go Go.Am
-- pneumatic/pneumaticref05.Few
def ic52 : IC := .seq (.region [⟨(some 1), .box (.t 0), none⟩,
  ⟨(some 2), .mov (.c (.bool false)), none⟩] none)
 (.seq (.region [⟨(some 4), .load (some 3) (.t 1), none⟩,
  ⟨(some 5), .call (.c (.fn 67 [] [])) [(.t 4), (.c (.int .i64 512))], none⟩,
  ⟨(some 3), .mov (.t 5), none⟩] none)
 (.seq (.region [⟨(some 6), .mov (.t 3), none⟩,
  ⟨(some 7), .bin .leq (.t 6) (.c (.int .i64 40)), none⟩,
  ⟨(some 8), .mov (.t 7), none⟩,
  ⟨(some 9), .mov (.t 3), some (8, false)⟩,
  ⟨(some 10), .bin .gtr (.t 9) (.c (.int .i64 256)), some (8, false)⟩,
  ⟨(some 11), .mov (.t 10), some (8, false)⟩,
  ⟨(some 12), .mov (.t 3), some (11, true)⟩,
  ⟨(some 13), .bin .leq (.t 12) (.c (.int .i64 512)), some (11, true)⟩,
  ⟨(some 14), .pick (.t 11) (.t 13) (.c (.bool false)), some (8, false)⟩,
  ⟨(some 15), .mov (.t 14), some (8, false)⟩,
  ⟨(some 16), .load (some 3) (.t 1), some (15, true)⟩,
  ⟨(some 17), .call (.c (.fn 78 [] [])) [(.t 16), (.c (.int .i64 40))], some (15, true)⟩,
  ⟨(some 18), .pick (.t 15) (.t 17) (.c (.bool false)), some (8, false)⟩,
  ⟨(some 19), .pick (.t 8) (.c (.bool true)) (.t 18), none⟩,
  ⟨(some 2), .mov (.t 19), none⟩] none)
 (.ret)))
theorem fn52 : env0.fn 52 = some ⟨20, ic52, [.t 2]⟩ := by kernel_rfl
-- pneumatic/pneumaticlaw05.few$1
def ic51 : IC := .seq (.region [⟨(some 1), .box (.t 0), none⟩,
  ⟨(some 2), .mov (.c (.bool false)), none⟩] none)
 (.seq (.region [⟨(some 3), .load (some 3) (.t 1), none⟩,
  ⟨(some 4), .call (.c (.fn 52 [] [])) [(.t 3)], none⟩,
  ⟨(some 5), .un .not (.t 4), none⟩,
  ⟨(some 2), .mov (.t 5), none⟩] none)
 (.ret))
theorem fn51 : env0.fn 51 = some ⟨6, ic51, [.t 2]⟩ := by kernel_rfl
def b79_0 : IC := .seq (.region [⟨(some 9), .bin .lss (.t 8) (.t 7), none⟩] none)
 (.seq (.cond (.t 9) (.skip)
 (.exit 0))
 (.seq (.block 1 (.seq (.region [⟨(some 10), .mov (.t 8), none⟩,
  ⟨(some 5), .mov (.t 10), none⟩] none)
 (.seq (.region [⟨(some 11), .mov (.t 1), none⟩,
  ⟨(some 12), .mov (.t 0), none⟩,
  ⟨(some 13), .mov (.t 5), none⟩,
  ⟨(some 14), .idxs 3 (.t 12) (.t 13), none⟩,
  ⟨(some 15), .load (some 3) (.t 14), none⟩,
  ⟨(some 16), .call (.t 11) [(.t 15)], none⟩] none)
 (.cond (.t 16) (.seq (.region [⟨(some 17), .mov (.t 5), none⟩,
  ⟨(some 4), .mov (.t 17), none⟩] none)
 (.ret))
 (.skip)))))
 (.region [⟨(some 18), .bin .add (.t 8) (.c (.int .i64 1)), none⟩,
  ⟨(some 8), .mov (.t 18), none⟩] none)))
-- slices.IndexFunc[[]pneumatic/api.Expr,pneumatic/api.Expr]
def ic79 : IC := .seq (.region [⟨(some 4), .mov (.c (.int .i64 0)), none⟩] none)
 (.seq (.seq (.region [⟨(some 6), .mov (.t 0), none⟩,
  ⟨(some 7), .len false (.t 6), none⟩,
  ⟨(some 8), .mov (.c (.int .i64 0)), none⟩] none)
 (.block 0 (.loop b79_0)))
 (.seq (.region [⟨(some 4), .mov (.c (.int .i64 (-1))), none⟩] none)
 (.ret)))
theorem fn79 : env0.fn 79 = some ⟨19, ic79, [.t 4]⟩ := by kernel_rfl
-- slices.ContainsFunc[[]pneumatic/api.Expr,pneumatic/api.Expr]
def ic50 : IC := .seq (.region [⟨(some 4), .mov (.c (.bool false)), none⟩] none)
 (.seq (.region [⟨(some 5), .mov (.t 0), none⟩,
  ⟨(some 6), .mov (.t 1), none⟩,
  ⟨(some 7), .call (.c (.fn 79 [] [])) [(.t 5), (.t 6)], none⟩,
  ⟨(some 8), .bin .geq (.t 7) (.c (.int .i64 0)), none⟩,
  ⟨(some 4), .mov (.t 8), none⟩] none)
 (.ret))
theorem fn50 : env0.fn 50 = some ⟨9, ic50, [.t 4]⟩ := by kernel_rfl
-- pneumatic/pneumaticlaw05.few
def ic17 : IC := .seq (.region [⟨(some 2), .mov (.c (.bool false)), none⟩] none)
 (.seq (.region [⟨(some 3), .mov (.t 0), none⟩,
  ⟨(some 4), .call (.c (.fn 50 [] [])) [(.t 3), (.c (.fn 51 [] []))], none⟩,
  ⟨(some 5), .un .not (.t 4), none⟩,
  ⟨(some 2), .mov (.t 5), none⟩] none)
 (.ret))
theorem fn17 : env0.fn 17 = some ⟨6, ic17, [.t 2]⟩ := by kernel_rfl
def zln (x : Ex) : Bool := decide (cnt 512 x ≤ 40) || (decide (cnt 512 x > 256) && (decide (cnt 512 x ≤ 512) && zdg 40 x))
theorem few52 (x : Ex) (hs : Slim x) : PF Try.prog 52 [.agg (cX x)] (.bool (zln x)) := by
 have p67 := zrx _ x 512 (Nat.le_refl _) hs (by omega) (by omega)
 have p78 := deep73 40 x 40 rfl (by omega) hs
 unfold zln
 generalize cnt 512 x = c at *
 generalize zdg 40 x = dd at *
 obtain ⟨op, ix, args⟩ := x
 refine zbl env0_ok fn52 [(0, .agg (cX (.nd op ix args)))] (by show 1 ≤ 20; decide) rfl fun w0 N0 => ?_
 unfold ic52
 refine za7 (za0 rfl (zc5 rfl rfl (za2 rfl (za4 (za3 ?_)))))
 refine zjh [] [(0, 0, cX (.nd op ix args))] [(1, .vptr (cX (.nd op ix args)))] rfl (.cons rfl rfl .nil) .nil (.cons rfl (.fptr rfl rfl) .nil) ?_
 repeat (first | refine za7 ?_ | refine za0 rfl ?_ | refine zap rfl rfl rfl rfl ?_)
 refine zay rfl rfl p67 (fun h => Bool.noConfusion (show false = true from h)) ?_
 repeat (first | refine za7 ?_ | refine za0 rfl ?_ | refine za4 ?_ | refine za3 ?_ | refine za2 rfl ?_)
 refine zar rfl rfl rfl (fun h1 => ?_) fun h1 => ?_
 ·repeat (first | refine za4 ?_ | refine za3 ?_ | refine zae ?_ | refine zcz rfl rfl ?_ | refine zhe rfl ?_ | refine za2 rfl ?_ | refine zag rfl rfl ?_)
  exact zad ⟨.inr rfl, _, rfl, by rw [h1]; rfl⟩
 ·rw [h1]
  repeat (first | refine zbz rfl ?_ | refine za2 rfl ?_)
  refine zar rfl rfl rfl (fun h2 => ?_) fun h2 => ?_
  ·rw [h2]
   repeat (first | refine zbz rfl ?_ | refine za2 rfl ?_)
   refine zar rfl rfl rfl (fun h3 => ?_) fun h3 => ?_
   ·rw [h3]
    repeat (first | refine zbz rfl ?_ | refine za2 rfl ?_ | refine zap rfl rfl rfl rfl ?_ | refine zag rfl rfl ?_)
    refine zay rfl rfl p78 (fun h => Bool.noConfusion (show false = true from h)) ?_
    repeat (first | refine za4 ?_ | refine za3 ?_ | refine zae ?_ | refine zbz rfl ?_ | refine za2 rfl ?_ | refine zag rfl rfl ?_ | refine zaa rfl rfl ?_)
    exact zad ⟨.inr rfl, _, rfl, rfl⟩
   ·rw [h3]
    repeat (first | refine za4 ?_ | refine za3 ?_ | refine zae ?_ | refine zbz rfl ?_ | refine zcz rfl rfl ?_ | refine za2 rfl ?_ | refine zag rfl rfl ?_ | refine zaa rfl rfl ?_)
    exact zad ⟨.inr rfl, _, rfl, rfl⟩
  ·rw [h2]
   repeat (first | refine za4 ?_ | refine za3 ?_ | refine zae ?_ | refine zbz rfl ?_ | refine zcz rfl rfl ?_ | refine za2 rfl ?_ | refine zaa rfl rfl ?_)
   exact zad ⟨.inr rfl, _, rfl, rfl⟩
theorem few51 (x : Ex) (hs : Slim x) : PF Try.prog 51 [.agg (cX x)] (.bool (!zln x)) := by
 have p52 := few52 x hs
 generalize zln x = c at *
 obtain ⟨op, ix, args⟩ := x
 refine zbl env0_ok fn51 [(0, .agg (cX (.nd op ix args)))] (by show 1 ≤ 6; decide) rfl fun w0 N0 => ?_
 unfold ic51
 refine za7 (za0 rfl (zc5 rfl rfl (za2 rfl (za4 (za3 ?_)))))
 refine zjh [] [(0, 0, cX (.nd op ix args))] [(1, .vptr (cX (.nd op ix args)))] rfl (.cons rfl rfl .nil) .nil (.cons rfl (.fptr rfl rfl) .nil) ?_
 repeat (first | refine za7 ?_ | refine za0 rfl ?_ | refine zap rfl rfl rfl rfl ?_)
 refine zay rfl rfl p52 (fun h => Bool.noConfusion (show false = true from h)) ?_
 repeat (first | refine za4 ?_ | refine za3 ?_ | refine zae ?_ | refine za2 rfl ?_ | refine ze6 rfl rfl ?_)
 exact zad ⟨.inr rfl, _, rfl, rfl⟩
end Go.Proofs.Ytmnkjofaodbokaa
namespace Go.Proofs.Ytmnkjofaodbokaa
open Go Go.Am
def fiX (p : Ex → Bool) (i : Nat) : List Ex → Int
 | [] => -1
 | x :: l => if p x = true then (i : Nat) else fiX p (i + 1) l
theorem fiX_step (p : Ex → Bool) {l : List Ex} {i : Nat} (h : i < l.length) : fiX p i (l.drop i) = if p l[i] = true then ((i : Nat) : Int) else fiX p (i + 1) (l.drop (i + 1)) := by
 rw [List.drop_eq_getElem_cons h]; rfl
theorem zs9 (p : Ex → Bool) : ∀ (l : List Ex) (i : Nat), decide (fiX p i l ≥ 0) = l.any p
 | [], i => rfl
 | x :: l, i => by
  rw [List.any_cons]
  unfold fiX
  cases h : p x with
  | true => rw [if_pos rfl, Bool.true_or, decide_eq_true (by omega)]
  | false => rw [if_neg Bool.false_ne_true, Bool.false_or, zs9 p l (i + 1)]
theorem index79 (l : List Ex) (hl : l.length < 9223372036854775807) (hs : ∀ x ∈ l, Slim x) : PF Try.prog 79 [.vs (cXs l), .fn 51 [] []] (.int .i64 (fiX (fun x => !zln x) 0 l)) := by
 have hcl := zb0 l
 refine zbl env0_ok fn79 [(0, .vs (cXs l)), (1, .fn 51 [] [])] (by show 2 ≤ 19; decide) rfl fun w0 N0 => ?_
 unfold ic79
 repeat (first | refine za7 ?_ | refine za0 rfl ?_ | refine za4 ?_ | refine za3 ?_ | refine zai ?_ | refine za2 rfl ?_ | refine zb7 rfl rfl ?_)
 refine zdr (fun mm S => ∃ i, mm = l.length - i ∧ i ≤ l.length ∧ fiX (fun x => !zln x) i (l.drop i) = fiX (fun x => !zln x) 0 l ∧ S = st 19 [(0, .vs (cXs l)), (1, .fn 51 [] []), (7, .int .i64 (cXs l).length), (8, .int .i64 (i : Nat))] [] 0 0) l.length
  (zal (.cons rfl (.cons rfl (.cons rfl (.cons rfl .nil))))) ⟨0, rfl, Nat.zero_le _, rfl, rfl⟩ ?_
 rintro mm S ⟨i, rfl, hi, hv, rfl⟩
 unfold b79_0
 repeat (first | refine za7 ?_ | refine za0 rfl ?_)
 refine zar rfl rfl rfl (fun h3 => ?_) fun h3 => ?_
 ·have hlt : i < l.length := by
   have h4 : ((i : Nat) : Int) < (((cXs l).length : Nat) : Int) := of_decide_eq_true h3
   omega
  have w1 : IntKind.wrap .i64 (((i : Nat) : Int) + 1) = ((i + 1 : Nat) : Int) := zbb i (by omega)
  have hg := zf7 hlt
  have hst := fiX_step (fun x => !zln x) hlt
  have p51 := few51 l[i] (hs _ (List.getElem_mem hlt))
  generalize l[i] = a at *
  generalize zln a = fa at *
  obtain ⟨op, ix, args⟩ := a
  repeat (first | refine za7 ?_ | refine za0 rfl ?_ | refine za4 ?_ | refine za3 ?_ | refine zai ?_ | refine zab ?_ | refine zbe rfl ?_ | refine za2 rfl ?_ | refine zap rfl rfl rfl rfl ?_ | refine zbu rfl rfl (by omega) (by assumption) rfl ?_)
  refine o_callv rfl rfl rfl p51 (fun h => Bool.noConfusion (show false = true from h)) ?_
  cases fa with
  | false =>
   rw [Bool.not_false, if_pos rfl, hv] at hst
   repeat (first | refine za7 ?_ | refine za0 rfl ?_ | refine za4 ?_ | refine za3 ?_ | refine zbe rfl ?_ | refine zae ?_ | refine za6 ?_ | refine zaf ?_ | refine za2 rfl ?_)
   exact zad ⟨.inr rfl, _, rfl, by rw [hst]; rfl⟩
  | true =>
   rw [Bool.not_true, if_neg Bool.false_ne_true, hv] at hst
   repeat (first | refine za0 rfl ?_ | refine za4 ?_ | refine za3 ?_ | refine zc2 ?_ | refine zab ?_ | refine zbi rfl ?_ | refine za2 rfl ?_ | refine zb8 (op := .add) rfl rfl rfl ?_)
   rw [w1]
   exact zcj (show l.length - (i + 1) < l.length - i by omega) (zal (.cons rfl (.cons rfl (.cons rfl (.cons rfl .nil))))) ⟨i + 1, rfl, hlt, hst.symm, rfl⟩
 ·have hie : i = l.length := by
   have h4 : ¬ ((i : Nat) : Int) < (((cXs l).length : Nat) : Int) := of_decide_eq_false h3
   omega
  rw [hie, List.drop_length] at hv
  repeat (first | refine za7 ?_ | refine za4 ?_ | refine za3 ?_ | refine zbi rfl ?_ | refine zbp ?_ | refine zah ?_)
  refine zeh ?_
  repeat (first | refine za7 ?_ | refine za0 rfl ?_ | refine za4 ?_ | refine za3 ?_ | refine zae ?_ | refine zbo ?_ | refine za2 rfl ?_)
  exact zad ⟨.inr rfl, _, rfl, by rw [← hv]; rfl⟩
theorem zpu (l : List Ex) (hl : l.length < 9223372036854775807) (hs : ∀ x ∈ l, Slim x) : PF Try.prog 50 [.vs (cXs l), .fn 51 [] []] (.bool (l.any fun x => !zln x)) := by
 have p79 := index79 l hl hs
 rw [← zs9 _ l 0]
 generalize fiX (fun x => !zln x) 0 l = z at *
 refine zbl env0_ok fn50 [(0, .vs (cXs l)), (1, .fn 51 [] [])] (by show 2 ≤ 9; decide) rfl fun w0 N0 => ?_
 unfold ic50
 repeat (first | refine za7 ?_ | refine za0 rfl ?_ | refine za4 ?_ | refine za3 ?_ | refine za2 rfl ?_)
 refine zay rfl rfl p79 (fun h => Bool.noConfusion (show false = true from h)) ?_
 refine zar rfl rfl rfl (fun h => ?_) fun h => ?_
 ·repeat (first | refine za4 ?_ | refine za3 ?_ | refine zae ?_ | refine za2 rfl ?_)
  exact zad ⟨.inr rfl, _, rfl, by rw [h]; rfl⟩
 ·repeat (first | refine za4 ?_ | refine za3 ?_ | refine zae ?_ | refine za2 rfl ?_)
  exact zad ⟨.inr rfl, _, rfl, by rw [h]; rfl⟩
theorem few17 (l : List Ex) (hl : l.length < 9223372036854775807) (hs : ∀ x ∈ l, Slim x) : PF Try.prog 17 [.vs (cXs l)] (.bool (l.all zln)) := by
 have p50 := zpu l hl hs
 have e : l.all zln = !(l.any fun x => !zln x) := by
  rw [List.not_any_eq_all_not]
  simp only [Bool.not_not]
 rw [e]
 generalize (l.any fun x => !zln x) = z at *
 refine zbl env0_ok fn17 [(0, .vs (cXs l))] (by show 1 ≤ 6; decide) rfl fun w0 N0 => ?_
 unfold ic17
 repeat (first | refine za7 ?_ | refine za0 rfl ?_ | refine za4 ?_ | refine za3 ?_ | refine za2 rfl ?_)
 refine zay rfl rfl p50 (fun h => Bool.noConfusion (show false = true from h)) ?_
 repeat (first | refine za4 ?_ | refine za3 ?_ | refine zae ?_ | refine za2 rfl ?_ | refine ze6 rfl rfl ?_)
 exact zad ⟨.inr rfl, _, rfl, rfl⟩
end Go.Proofs.Ytmnkjofaodbokaa
namespace Go.Proofs.Ytmnkjofaodbokaa
open Go Go.Am
-- pneumatic/pneumaticlaw05.right
def ic11 : IC := .seq (.region [⟨(some 2), .box (.t 0), none⟩,
  ⟨(some 4), .mov (.c (.bool false)), none⟩] none)
 (.seq (.region [⟨(some 5), .load (some 3) (.t 2), none⟩,
  ⟨(some 6), .bslice 3 1 [.int .i64 0, .int .i64 0, .nils] [(0, 3, (.t 5))], none⟩,
  ⟨(some 7), .call (.c (.fn 17 [] [])) [(.t 6)], none⟩,
  ⟨(some 8), .mov (.t 7), none⟩,
  ⟨(some 9), .load (some 3) (.t 2), some (8, true)⟩,
  ⟨(some 10), .mov (.t 1), some (8, true)⟩,
  ⟨(some 11), .call (.c (.fn 33 [] [])) [(.t 9), (.t 10)], some (8, true)⟩,
  ⟨(some 12), .bin .eql (.t 11) (.c (.int .i64 0)), some (8, true)⟩,
  ⟨(some 13), .pick (.t 8) (.t 12) (.c (.bool false)), none⟩,
  ⟨(some 4), .mov (.t 13), none⟩] none)
 (.ret))
theorem fn11 : env0.fn 11 = some ⟨14, ic11, [.t 4]⟩ := by kernel_rfl
def rgtX (x : Ex) (n : Int) : Bool := zln x && decide (zey x n = 0)
theorem right11 (x : Ex) (hs : Slim x) (n : Int) : PF Try.prog 11 [.agg (cX x), .int .i64 n] (.bool (rgtX x n)) := by
 have p17 := few17 [x] (show (1 : Nat) < 9223372036854775807 by decide) (fun y hy => by obtain rfl := List.mem_singleton.1 hy; exact hs)
 have p33 := check60 x hs n
 unfold rgtX
 rw [List.all_cons, List.all_nil, Bool.and_true] at p17
 generalize zln x = c at *
 generalize zey x n = e at *
 obtain ⟨op, ix, args⟩ := x
 refine zbl env0_ok fn11 [(0, .agg (cX (.nd op ix args))), (1, .int .i64 n)] (by show 2 ≤ 14; decide) rfl fun w0 N0 => ?_
 unfold ic11
 refine za7 (za0 rfl (zc5 rfl rfl (za2 rfl (za4 (za3 ?_)))))
 refine zjh [] [(0, 0, cX (.nd op ix args))] [(1, .int .i64 n), (2, .vptr (cX (.nd op ix args)))] rfl (.cons rfl rfl .nil) .nil (.cons rfl (.same rfl) (.cons rfl (.fptr rfl rfl) .nil)) ?_
 repeat (first | refine za7 ?_ | refine za0 rfl ?_ | refine zap rfl rfl rfl rfl ?_ | refine zbd rfl rfl ?_)
 refine zay rfl rfl p17 (fun _ => rfl) ?_
 cases c with
 | false =>
  repeat (first | refine za4 ?_ | refine za3 ?_ | refine zae ?_ | refine zcz rfl rfl ?_ | refine za2 rfl ?_ | refine zaa rfl rfl ?_)
  exact zad ⟨.inr rfl, _, rfl, rfl⟩
 | true =>
  repeat (first | refine zbz rfl ?_ | refine za2 rfl ?_ | refine zap rfl rfl rfl rfl ?_)
  refine zay rfl rfl p33 (fun h => Bool.noConfusion (show false = true from h)) ?_
  repeat (first | refine zbz rfl ?_)
  refine zar rfl rfl rfl (fun h => ?_) fun h => ?_
  ·repeat (first | refine za4 ?_ | refine za3 ?_ | refine zae ?_ | refine za2 rfl ?_ | refine zag rfl rfl ?_)
   exact zad ⟨.inr rfl, _, rfl, by rw [Bool.true_and, decide_eq_true (by simpa using h)]; rfl⟩
  ·repeat (first | refine za4 ?_ | refine za3 ?_ | refine zae ?_ | refine za2 rfl ?_ | refine zag rfl rfl ?_)
   exact zad ⟨.inr rfl, _, rfl, by rw [Bool.true_and, decide_eq_false (by simpa using h)]; rfl⟩
def mxI (a b : Int) : Int := if b > a then b else a
mutual
def dpX : Ex → Int
 | .nd _ _ args => dpL 0 args + 1
def dpL (a : Int) : List Ex → Int
 | [] => a
 | y :: ys => dpL (mxI a (dpX y)) ys
end
theorem mxI_le {a b : Int} : a ≤ mxI a b ∧ b ≤ mxI a b := by unfold mxI; split <;> omega
theorem zoo : ∀ (l : List Ex) (a : Int), a ≤ dpL a l
 | [], a => by rw [dpL]; omega
 | y :: ys, a => by
  rw [dpL]
  have := zoo ys (mxI a (dpX y))
  have := @mxI_le a (dpX y)
  omega
theorem zn8 : ∀ x : Ex, 1 ≤ dpX x
 | .nd op ix args => by rw [dpX]; have := zoo args 0; omega
theorem zs3 : ∀ (l : List Ex) (a : Int), 0 ≤ a → dpL a l = mxI a (dpL 0 l)
 | [], a, h => by rw [dpL, dpL]; unfold mxI; split <;> omega
 | y :: ys, a, h => by
  have hp := zn8 y
  rw [dpL, dpL, zs3 ys (mxI a (dpX y)) (by unfold mxI; split <;> omega), zs3 ys (mxI 0 (dpX y)) (by unfold mxI; split <;> omega)]
  generalize dpL 0 ys = z at *
  unfold mxI
  repeat' split
  all_goals omega
mutual
theorem walkD : ∀ (x : Ex) (d n m : Int), 1 ≤ d → d ≤ 17 → 0 ≤ n → n + szX x ≤ 256 → zdg (17 - d).toNat x = true → zem zf2 d x (n, m) = .inl (n + szX x, mxI m (d - 1 + dpX x))
 | .nd op ix args => fun d n m hd h17 h0 hn hb => by
  rw [szX] at hn ⊢
  rw [zem, dpX]
  have hs0 := zc7 args
  have h16 : d ≤ 16 := by
   by_cases h : d ≤ 16
   ·exact h
   ·rw [show (17 - d).toNat = 0 by omega] at hb
    simp [zdg] at hb
  rw [show (17 - d).toNat = (16 - d).toNat + 1 by omega, zgt] at hb
  have hst : zf2 (n, m) d (.nd op ix args) = .inl (n + 1, zkj m d) := by
   unfold zf2
   rw [if_neg (by dsimp only; omega)]
  rw [hst]
  dsimp only
  rw [walkLD args d (n + 1) (zkj m d) hd h16 (by omega) (by omega) hb (by unfold zkj; split <;> omega), ← Int.add_assoc]
  have h1 := zoo args 0
  generalize dpL 0 args = z at *
  have : mxI (zkj m d) (d + z) = mxI m (d - 1 + (z + 1)) := by
   unfold mxI zkj
   repeat' split
   all_goals omega
  rw [this]
theorem walkLD : ∀ (l : List Ex) (d n m : Int), 1 ≤ d → d ≤ 16 → 0 ≤ n → n + szL l ≤ 256 → l.all (zdg (16 - d).toNat) = true → d ≤ m → zex zf2 d l (n, m) = .inl (n + szL l, mxI m (d + dpL 0 l))
 | [] => fun d n m hd h16 h0 hn hb hm => by
  rw [szL, zex, Int.add_zero, dpL]
  have : mxI m (d + 0) = m := by unfold mxI; split <;> omega
  rw [this]
 | y :: ys => fun d n m hd h16 h0 hn hb hm => by
  rw [szL] at hn ⊢
  have hp := zef y
  have hq := zc7 ys
  rw [List.all_cons, Bool.and_eq_true] at hb
  have hy := walkD y (d + 1) n m (by omega) (by omega) h0 (by omega) (by rw [show (17 - (d + 1)).toNat = (16 - d).toNat by omega]; exact hb.1)
  rw [zex, if_pos h16, hy]
  dsimp only
  rw [walkLD ys d (n + szX y) _ hd h16 (by omega) (by omega) hb.2 (by have := @mxI_le m (d + 1 - 1 + dpX y); omega), dpL, ← Int.add_assoc]
  have h3 := zn8 y
  have h4 := zoo ys 0
  rw [zs3 ys (mxI 0 (dpX y)) (by unfold mxI; split <;> omega)]
  generalize dpL 0 ys = z at *
  have : mxI (mxI m (d + 1 - 1 + dpX y)) (d + z) = mxI m (d + mxI (mxI 0 (dpX y)) z) := by
   unfold mxI
   repeat' split
   all_goals omega
  rw [this]
end
theorem zq5 (x : Ex) : zgg x = if zdo x = true then .tup [.int .i64 (szX x), .int .i64 (dpX x), .bool true] else .tup [.int .i64 0, .int .i64 0, .bool false] := by
 unfold zgg
 by_cases hl : zdo x = true
 ·have h := (ze1 x).1 hl
  rw [if_pos hl, walkD x 1 0 0 (by omega) (by omega) (by omega) (by omega) h.2]
  dsimp only
  have h1 := zn8 x
  have : mxI 0 (1 - 1 + dpX x) = dpX x := by unfold mxI; split <;> omega
  rw [this, Int.zero_add]
 ·have hw := walkM x 1 0 0 (by omega) (by omega) (by omega) (by omega)
  rw [Int.zero_add, show ((17 : Int) - 1).toNat = 16 from rfl, if_neg (fun h => hl ((ze1 x).2 h))] at hw
  rw [if_neg hl, hw]
end Go.Proofs.Ytmnkjofaodbokaa
namespace Go.Proofs.Ytmnkjofaodbokaa
open Go Go.Am
def Gv (b : Nat) (q : List Int) (w : AV) (hp : List (Nat × Nat × AObj)) (nx : Nat) : Prop :=
 (q = [] ∧ w = .nils) ∨ ∃ id sp, w = .ms id sp 1 0 q.length none ∧ Am.look id hp = some (sp, .cells (q.map (AV.int .i64))) ∧ b < id ∧ id < nx
section
variable {b nx : Nat} {q : List Int} {w : AV} {hp : List (Nat × Nat × AObj)}
theorem Gv.fresh (h : Gv b q w hp nx) (ck : Nat) (x : AObj) : Gv b q w ((nx, ck, x) :: hp) (nx + 1) := by
 rcases h with h | ⟨id, sp, e, hl, h1, h2⟩
 ·exact .inl h
 ·exact .inr ⟨id, sp, e, by rw [zaj, if_neg (by omega)]; exact hl, h1, by omega⟩
theorem Gv.put (h : Gv b q w hp nx) {i : Nat} (hi : i ≤ b) (x : Nat × AObj) : Gv b q w (zb6 i x hp) nx := by
 rcases h with h | ⟨id, sp, e, hl, h1, h2⟩
 ·exact .inl h
 ·exact .inr ⟨id, sp, e, by rw [za1, if_neg (by omega)]; exact hl, h1, h2⟩
theorem Gv.view {S : AS} {d : Nat} (h : Gv b q w S.heap nx) : S.view (d + 1) w = vsI q := by
 rcases h with ⟨rfl, rfl⟩ | ⟨id, sp, rfl, hl, _, _⟩
 ·rfl
 ·exact zua q rfl hl
end
-- slices.Index[[]int,int]
-- slices.Contains[[]int,int]
-- slices.Equal[[]int,int]
end Go.Proofs.Ytmnkjofaodbokaa
namespace Go.Proofs.Ytmnkjofaodbokaa
open Go Go.Am
def zdt (n : Nat) : Bool := (decide (97 ≤ n) && decide (n ≤ 122)) || (decide (65 ≤ n) && decide (n ≤ 90))
def zdm (n : Nat) : Bool := zdt n || (decide (48 ≤ n) && decide (n ≤ 57)) || n == 95
def zg8 (f : Nat → AV) : List (List AV × AV) := (List.range 256).map fun (n : Nat) => ([.int .u8 (n : Int)], f n)
theorem zhp {g : FuncId} {f : Nat → AV} (h : TabOk Try.prog [(g, zg8 f)]) (b : UInt8) : PF Try.prog g [.int .u8 b.toNat] (f b.toNat) :=
 h _ (List.mem_singleton.2 rfl) (_, _) (List.mem_map.2 ⟨b.toNat, List.mem_range.2 b.toNat_lt, rfl⟩)
def tab36 : Tab := [(36, zg8 fun n => .bool (zdt n))]
theorem tab36_ok : TabOk Try.prog tab36 := TabOk.of_run env0_ok (n := 60) (by kernel_rfl)
def tab97 : Tab := [(97, zg8 fun n => .bool (zdt n))]
theorem tab97_ok : TabOk Try.prog tab97 := TabOk.of_run env0_ok (n := 60) (by kernel_rfl)
def tab37 : Tab := [(37, zg8 fun n => .bool (zdm n))]
theorem tab37_ok : TabOk Try.prog tab37 := TabOk.of_run env0_ok (n := 60) (by kernel_rfl)
def tab96 : Tab := [(96, zg8 fun n => .bool (zdm n))]
theorem tab96_ok : TabOk Try.prog tab96 := TabOk.of_run env0_ok (n := 60) (by kernel_rfl)
theorem letter36 (b : UInt8) : PF Try.prog 36 [.int .u8 b.toNat] (.bool (zdt b.toNat)) := zhp tab36_ok b
theorem zoy (b : UInt8) : PF Try.prog 97 [.int .u8 b.toNat] (.bool (zdt b.toNat)) := zhp tab97_ok b
theorem inner37 (b : UInt8) : PF Try.prog 37 [.int .u8 b.toNat] (.bool (zdm b.toNat)) := zhp tab37_ok b
theorem znn (b : UInt8) : PF Try.prog 96 [.int .u8 b.toNat] (.bool (zdm b.toNat)) := zhp tab96_ok b
section
variable {P : Program} {w0 : World} {N0 : Nat} {k : List Fr} {Q : Exit → AS → Prop} {pf : Kn} {ios : List Opr} {n nx ck : Nat} {mk : List (Nat × Nat)} {md : Md} {l : List (Nat × AV)} {hp : List (Nat × Nat × AObj)}
theorem zjk {d : Nat} {x i : Arg} {s : List UInt8} {kd : IntKind} {z : Int} {b : UInt8} (hx : zbc x l = some (.str s)) (hi : zbc i l = some (.int kd z)) (h0 : 0 ≤ z) (hb : s[z.toNat]? = some b) (go : Om P w0 N0 md pf ios (st n ((d, .int .u8 b.toNat) :: l) hp nx ck mk) k Q) : Om P w0 N0 md pf (⟨some d, .idxstr x i, none⟩ :: ios) (st n l hp nx ck mk) k Q :=
 zdx (zq0 ((zax x).trans hx) ((zax i).trans hi) h0 hb) go
theorem o_slv {d sz : Nat} {ax : Arg} {al ah : Option Arg} {es fs : List (List AV)} {lv hv : Option AV} {lo hh : Int} (hx : zbc ax l = some (.vs es)) (h1 : zq8 al l = some lv) (h2 : zci lv 0 = some lo) (h3 : zq8 ah l = some hv) (h4 : zci hv es.length = some hh)
  (b0 : 0 ≤ lo) (b1 : lo ≤ hh) (b2 : hh ≤ es.length) (hs : ∀ e ∈ es, e.length = sz) (hfs : (es.drop lo.toNat).take (hh.toNat - lo.toNat) = fs) (go : Om P w0 N0 md pf ios (st n ((d, .vs fs) :: l) hp nx ck mk) k Q) :
  Om P w0 N0 md pf (⟨some d, .slsl sz ax al ah none, none⟩ :: ios) (st n l hp nx ck mk) k Q := by
 subst hfs
 have hi : iop (st n l hp nx ck mk) (.slsl sz ax al ah none) = some (.vs ((es.drop lo.toNat).take (hh.toNat - lo.toNat)), st n l hp nx ck mk) := by
  have e1 : (st n l hp nx ck mk).oarg al = some lv := (zl6 al).trans h1
  have e3 : (st n l hp nx ck mk).oarg ah = some hv := (zl6 ah).trans h3
  have e5 : (st n l hp nx ck mk).oarg none = some none := rfl
  simp only [iop, zax, hx, e1, e3, e5]
  unfold zqj
  simp only [h2, h4]
  rw [if_pos ⟨b0, b1, b2, by rw [List.all_eq_true]; intro e he; simpa using hs e he⟩]
  rfl
 exact zdx hi go
end
def zg2 (s : List UInt8) : Bool := s.all (fun b => zdm b.toNat) && (match s with
 | [] => false
 | b :: _ => zdt b.toNat)
def vsS (l : List (List UInt8)) : AV := .vs (l.map fun s => [.str s])
theorem zjd {l : List (List UInt8)} {i : Nat} (h : i < l.length) : (l.map fun s => ([.str s] : List AV))[((i : Nat) : Int).toNat]? = some [.str l[i]] := by
 rw [Int.toNat_natCast, List.getElem?_map, List.getElem?_eq_getElem h]
 rfl
def b72_0 : IC := .seq (.region [⟨(some 7), .bin .lss (.t 6) (.t 5), none⟩] none)
 (.seq (.cond (.t 7) (.skip)
 (.exit 0))
 (.seq (.block 1 (.seq (.region [⟨(some 8), .mov (.t 6), none⟩,
  ⟨(some 3), .mov (.t 8), none⟩] none)
 (.seq (.region [⟨(some 9), .mov (.t 0), none⟩,
  ⟨(some 10), .mov (.t 3), none⟩,
  ⟨(some 11), .idxstr (.t 9) (.t 10), none⟩,
  ⟨(some 12), .call (.c (.fn 96 [] [])) [(.t 11)], none⟩,
  ⟨(some 13), .un .not (.t 12), none⟩] none)
 (.cond (.t 13) (.seq (.region [⟨(some 2), .mov (.c (.bool false)), none⟩] none)
 (.ret))
 (.skip)))))
 (.region [⟨(some 14), .bin .add (.t 6) (.c (.int .i64 1)), none⟩,
  ⟨(some 6), .mov (.t 14), none⟩] none)))
-- pneumatic/boolexp.word
def ic72 : IC := .seq (.region [⟨(some 2), .mov (.c (.bool false)), none⟩] none)
 (.seq (.seq (.region [⟨(some 4), .mov (.t 0), none⟩,
  ⟨(some 5), .len true (.t 4), none⟩,
  ⟨(some 6), .mov (.c (.int .i64 0)), none⟩] none)
 (.block 0 (.loop b72_0)))
 (.seq (.region [⟨(some 15), .mov (.t 0), none⟩,
  ⟨(some 16), .bin .neq (.t 15) (.c (.str [])), none⟩,
  ⟨(some 17), .mov (.t 16), none⟩,
  ⟨(some 18), .mov (.t 0), some (17, true)⟩,
  ⟨(some 19), .idxstr (.t 18) (.c (.int .i64 0)), some (17, true)⟩,
  ⟨(some 20), .call (.c (.fn 97 [] [])) [(.t 19)], some (17, true)⟩,
  ⟨(some 21), .pick (.t 17) (.t 20) (.c (.bool false)), none⟩,
  ⟨(some 2), .mov (.t 21), none⟩] none)
 (.ret)))
theorem fn72 : env0.fn 72 = some ⟨22, ic72, [.t 2]⟩ := by kernel_rfl
theorem word72 (s : List UInt8) (hs : s.length < 9223372036854775808) : PF Try.prog 72 [.str s] (.bool (zg2 s)) := by
 refine zbl env0_ok fn72 [(0, .str s)] (by show 1 ≤ 22; decide) rfl fun w0 N0 => ?_
 unfold ic72
 repeat (first | refine za7 ?_ | refine za0 rfl ?_ | refine za4 ?_ | refine za3 ?_ | refine zai ?_ | refine za2 rfl ?_ | refine zb7 rfl rfl ?_)
 refine zdr (fun mm S => ∃ i, mm = s.length - i ∧ i ≤ s.length ∧ s.all (fun b => zdm b.toNat) = (s.drop i).all (fun b => zdm b.toNat) ∧ S = st 22 [(0, .str s), (5, .int .i64 (s.length : Nat)), (6, .int .i64 (i : Nat))] [] 0 0) s.length
  (zal (.cons rfl (.cons rfl (.cons rfl .nil)))) ⟨0, rfl, Nat.zero_le _, rfl, rfl⟩ ?_
 rintro mm S ⟨i, rfl, hi, hv, rfl⟩
 unfold b72_0
 repeat (first | refine za7 ?_ | refine za0 rfl ?_)
 refine zar rfl rfl rfl (fun h3 => ?_) fun h3 => ?_
 ·have hlt : i < s.length := by
   have h4 : ((i : Nat) : Int) < ((s.length : Nat) : Int) := of_decide_eq_true h3
   omega
  have w1 : IntKind.wrap .i64 (((i : Nat) : Int) + 1) = ((i + 1 : Nat) : Int) := zbb i (by omega)
  have hg : s[((i : Nat) : Int).toNat]? = some s[i] := by rw [Int.toNat_natCast, List.getElem?_eq_getElem hlt]
  have p96 := znn s[i]
  rw [List.drop_eq_getElem_cons hlt, List.all_cons] at hv
  generalize s[i] = b at *
  generalize zdm b.toNat = ib at *
  repeat (first | refine za7 ?_ | refine za0 rfl ?_ | refine za4 ?_ | refine za3 ?_ | refine zai ?_ | refine zab ?_ | refine zbe rfl ?_ | refine za2 rfl ?_)
  refine zjk rfl rfl (Int.natCast_nonneg i) hg ?_
  refine zay rfl rfl p96 (fun h => Bool.noConfusion (show false = true from h)) ?_
  cases ib with
  | false =>
   rw [Bool.false_and] at hv
   repeat (first | refine za7 ?_ | refine za0 rfl ?_ | refine za4 ?_ | refine za3 ?_ | refine zbe rfl ?_ | refine zae ?_ | refine za6 ?_ | refine zaf ?_ | refine za2 rfl ?_ | refine ze6 rfl rfl ?_)
   exact zad ⟨.inr rfl, _, rfl, by unfold zg2; rw [hv]; rfl⟩
  | true =>
   rw [Bool.true_and] at hv
   repeat (first | refine za0 rfl ?_ | refine za4 ?_ | refine za3 ?_ | refine zc2 ?_ | refine zab ?_ | refine zbi rfl ?_ | refine za2 rfl ?_ | refine ze6 rfl rfl ?_ | refine zb8 (op := .add) rfl rfl rfl ?_)
   rw [w1]
   exact zcj (show s.length - (i + 1) < s.length - i by omega) (zal (.cons rfl (.cons rfl (.cons rfl .nil)))) ⟨i + 1, rfl, hlt, hv, rfl⟩
 ·have hie : i = s.length := by
   have h4 : ¬ ((i : Nat) : Int) < ((s.length : Nat) : Int) := of_decide_eq_false h3
   omega
  rw [hie, List.drop_length, List.all_nil] at hv
  unfold zg2
  rw [hv, Bool.true_and]
  match s with
  | [] =>
   repeat (first | refine za7 ?_ | refine za4 ?_ | refine za3 ?_ | refine zbi rfl ?_ | refine zbp ?_ | refine zah ?_)
   refine zeh ?_
   repeat (first | refine za7 ?_ | refine za0 rfl ?_ | refine za4 ?_ | refine za3 ?_ | refine zae ?_ | refine zbo ?_ | refine zcz rfl rfl ?_ | refine za2 rfl ?_ | refine zaa rfl rfl ?_ | refine zav rfl rfl rfl ?_)
   exact zad ⟨.inr rfl, _, rfl, rfl⟩
  | b :: r =>
   have p97 := zoy b
   have hn : Am.binOp .neq (.str (b :: r)) (.str []) = some (.bool true) := rfl
   repeat (first | refine za7 ?_ | refine za4 ?_ | refine za3 ?_ | refine zbi rfl ?_ | refine zbp ?_ | refine zah ?_)
   refine zeh ?_
   repeat (first | refine za7 ?_ | refine za0 rfl ?_ | refine za3 ?_ | refine zbo ?_ | refine zbz rfl ?_ | refine za2 rfl ?_ | refine zbm rfl rfl rfl ?_)
   refine zjk rfl rfl (Int.le_refl 0) (by rfl) ?_
   repeat (first | refine zbz rfl ?_)
   refine zay rfl rfl p97 (fun h => Bool.noConfusion (show false = true from h)) ?_
   repeat (first | refine za4 ?_ | refine za3 ?_ | refine zae ?_ | refine za2 rfl ?_ | refine zag rfl rfl ?_)
   exact zad ⟨.inr rfl, _, rfl, rfl⟩
end Go.Proofs.Ytmnkjofaodbokaa
namespace Go.Proofs.Ytmnkjofaodbokaa
open Go Go.Am
def idS (s : List UInt8) (i : Nat) : List (List UInt8) → Int
 | [] => -1
 | x :: l => if s = x then (i : Nat) else idS s (i + 1) l
theorem zov (s : List UInt8) {l : List (List UInt8)} {i : Nat} (h : i < l.length) : idS s i (l.drop i) = if s = l[i] then ((i : Nat) : Int) else idS s (i + 1) (l.drop (i + 1)) := by
 rw [List.drop_eq_getElem_cons h]; rfl
theorem zt2 (s : List UInt8) : ∀ (l : List (List UInt8)) (i : Nat), decide (idS s i l ≥ 0) = l.contains s
 | [], i => rfl
 | x :: l, i => by
  unfold idS
  by_cases h : s = x
  ·subst h
   rw [if_pos rfl, decide_eq_true (by omega), List.contains_cons, beq_self_eq_true, Bool.true_or]
  ·rw [if_neg h, zt2 s l (i + 1), List.contains_cons, beq_eq_false_iff_ne.2 h, Bool.false_or]
def b98_0 : IC := .seq (.region [⟨(some 9), .bin .lss (.t 8) (.t 7), none⟩] none)
 (.seq (.cond (.t 9) (.skip)
 (.exit 0))
 (.seq (.block 1 (.seq (.region [⟨(some 10), .mov (.t 8), none⟩,
  ⟨(some 5), .mov (.t 10), none⟩] none)
 (.seq (.region [⟨(some 11), .mov (.t 1), none⟩,
  ⟨(some 12), .mov (.t 0), none⟩,
  ⟨(some 13), .mov (.t 5), none⟩,
  ⟨(some 14), .idxs 1 (.t 12) (.t 13), none⟩,
  ⟨(some 15), .load none (.t 14), none⟩,
  ⟨(some 16), .bin .eql (.t 11) (.t 15), none⟩] none)
 (.cond (.t 16) (.seq (.region [⟨(some 17), .mov (.t 5), none⟩,
  ⟨(some 4), .mov (.t 17), none⟩] none)
 (.ret))
 (.skip)))))
 (.region [⟨(some 18), .bin .add (.t 8) (.c (.int .i64 1)), none⟩,
  ⟨(some 8), .mov (.t 18), none⟩] none)))
-- slices.Index[[]string,string]
def ic98 : IC := .seq (.region [⟨(some 4), .mov (.c (.int .i64 0)), none⟩] none)
 (.seq (.seq (.region [⟨(some 6), .mov (.t 0), none⟩,
  ⟨(some 7), .len false (.t 6), none⟩,
  ⟨(some 8), .mov (.c (.int .i64 0)), none⟩] none)
 (.block 0 (.loop b98_0)))
 (.seq (.region [⟨(some 4), .mov (.c (.int .i64 (-1))), none⟩] none)
 (.ret)))
theorem fn98 : env0.fn 98 = some ⟨19, ic98, [.t 4]⟩ := by kernel_rfl
theorem zt3 (l : List (List UInt8)) (hl : l.length < 9223372036854775808) (s : List UInt8) : PF Try.prog 98 [vsS l, .str s] (.int .i64 (idS s 0 l)) := by
 have hml : (l.map fun s => ([.str s] : List AV)).length = l.length := List.length_map ..
 refine zbl env0_ok fn98 [(0, vsS l), (1, .str s)] (by show 2 ≤ 19; decide) rfl fun w0 N0 => ?_
 unfold ic98
 repeat (first | refine za7 ?_ | refine za0 rfl ?_ | refine za4 ?_ | refine za3 ?_ | refine zai ?_ | refine za2 rfl ?_ | refine zb7 rfl rfl ?_)
 refine zdr (fun mm S => ∃ i, mm = l.length - i ∧ i ≤ l.length ∧ idS s 0 l = idS s i (l.drop i) ∧ S = st 19 [(0, vsS l), (1, .str s), (7, .int .i64 ((l.map fun s => ([.str s] : List AV)).length : Nat)), (8, .int .i64 (i : Nat))] [] 0 0) l.length
  (zal (.cons rfl (.cons rfl (.cons rfl (.cons rfl .nil))))) ⟨0, rfl, Nat.zero_le _, rfl, rfl⟩ ?_
 rintro mm S ⟨i, rfl, hi, hv, rfl⟩
 unfold b98_0
 repeat (first | refine za7 ?_ | refine za0 rfl ?_)
 refine zar rfl rfl rfl (fun h3 => ?_) fun h3 => ?_
 ·have hlt : i < l.length := by
   have h4 : ((i : Nat) : Int) < (((l.map fun s => ([.str s] : List AV)).length : Nat) : Int) := of_decide_eq_true h3
   omega
  have w1 : IntKind.wrap .i64 (((i : Nat) : Int) + 1) = ((i + 1 : Nat) : Int) := zbb i (by omega)
  have hge := zjd hlt
  rw [zov s hlt] at hv
  generalize l[i] = y at *
  repeat (first | refine za7 ?_ | refine za0 rfl ?_ | refine za4 ?_ | refine za3 ?_ | refine zai ?_ | refine zab ?_ | refine zbe rfl ?_ | refine za2 rfl ?_ | refine zam rfl rfl ?_ | refine zbu rfl rfl (by omega) (by assumption) rfl ?_)
  refine zar rfl rfl rfl (fun h => ?_) fun h => ?_
  ·have h : s = y := by simpa using h
   rw [if_pos h] at hv
   repeat (first | refine za7 ?_ | refine za0 rfl ?_ | refine za4 ?_ | refine za3 ?_ | refine zbe rfl ?_ | refine zae ?_ | refine za6 ?_ | refine zaf ?_ | refine za2 rfl ?_)
   exact zad ⟨.inr rfl, _, rfl, by rw [hv]; rfl⟩
  ·have h : ¬ s = y := by simpa using h
   rw [if_neg h] at hv
   repeat (first | refine za0 rfl ?_ | refine za4 ?_ | refine za3 ?_ | refine zc2 ?_ | refine zab ?_ | refine zbi rfl ?_ | refine za2 rfl ?_ | refine zb8 (op := .add) rfl rfl rfl ?_)
   rw [w1]
   exact zcj (show l.length - (i + 1) < l.length - i by omega) (zal (.cons rfl (.cons rfl (.cons rfl (.cons rfl .nil))))) ⟨i + 1, rfl, hlt, hv, rfl⟩
 ·have hie : i = l.length := by
   have h4 : ¬ ((i : Nat) : Int) < (((l.map fun s => ([.str s] : List AV)).length : Nat) : Int) := of_decide_eq_false h3
   omega
  rw [hie, List.drop_length] at hv
  repeat (first | refine za7 ?_ | refine za4 ?_ | refine za3 ?_ | refine zbi rfl ?_ | refine zbp ?_ | refine zah ?_)
  refine zeh ?_
  repeat (first | refine za7 ?_ | refine za0 rfl ?_ | refine za4 ?_ | refine za3 ?_ | refine zae ?_ | refine zbo ?_ | refine za2 rfl ?_)
  exact zad ⟨.inr rfl, _, rfl, by rw [hv]; rfl⟩
-- slices.Contains[[]string,string]
def ic73 : IC := .seq (.region [⟨(some 4), .mov (.c (.bool false)), none⟩] none)
 (.seq (.region [⟨(some 5), .mov (.t 0), none⟩,
  ⟨(some 6), .mov (.t 1), none⟩,
  ⟨(some 7), .call (.c (.fn 98 [] [])) [(.t 5), (.t 6)], none⟩,
  ⟨(some 8), .bin .geq (.t 7) (.c (.int .i64 0)), none⟩,
  ⟨(some 4), .mov (.t 8), none⟩] none)
 (.ret))
theorem fn73 : env0.fn 73 = some ⟨9, ic73, [.t 4]⟩ := by kernel_rfl
theorem zpv (l : List (List UInt8)) (hl : l.length < 9223372036854775808) (s : List UInt8) : PF Try.prog 73 [vsS l, .str s] (.bool (l.contains s)) := by
 have p98 := zt3 l hl s
 rw [← zt2 s l 0]
 generalize idS s 0 l = z at *
 refine zbl env0_ok fn73 [(0, vsS l), (1, .str s)] (by show 2 ≤ 9; decide) rfl fun w0 N0 => ?_
 unfold ic73
 repeat (first | refine za7 ?_ | refine za0 rfl ?_ | refine za4 ?_ | refine za3 ?_ | refine za2 rfl ?_)
 refine zay rfl rfl p98 (fun h => Bool.noConfusion (show false = true from h)) ?_
 refine zar rfl rfl rfl (fun h => ?_) fun h => ?_
 ·repeat (first | refine za4 ?_ | refine za3 ?_ | refine zae ?_ | refine za2 rfl ?_)
  exact zad ⟨.inr rfl, _, rfl, by rw [h]; rfl⟩
 ·repeat (first | refine za4 ?_ | refine za3 ?_ | refine zae ?_ | refine za2 rfl ?_)
  exact zad ⟨.inr rfl, _, rfl, by rw [h]; rfl⟩
def nmE (pre : List (List UInt8)) (s : List UInt8) : Int := if zg2 s = false then 3 else if s.length > 24 then 17 else if pre.contains s = true then 7 else 0
def nmL (l : List (List UInt8)) (i : Nat) : List (List UInt8) → Int
 | [] => 0
 | s :: r => if nmE (l.take i) s = 0 then nmL l (i + 1) r else nmE (l.take i) s
def nmR (l : List (List UInt8)) : Int := if l.length > 256 then 5 else nmL l 0 l
theorem zl2 {l : List (List UInt8)} {i : Nat} (h : i < l.length) : nmL l i (l.drop i) = if nmE (l.take i) l[i] = 0 then nmL l (i + 1) (l.drop (i + 1)) else nmE (l.take i) l[i] := by
 rw [List.drop_eq_getElem_cons h]; rfl
def b40_0 : IC := .seq (.region [⟨(some 11), .bin .lss (.t 10) (.t 9), none⟩] none)
 (.seq (.cond (.t 11) (.skip)
 (.exit 0))
 (.seq (.block 1 (.seq (.region [⟨(some 12), .mov (.t 10), none⟩,
  ⟨(some 13), .idxs 1 (.t 8) (.t 10), none⟩,
  ⟨(some 14), .load none (.t 13), none⟩,
  ⟨(some 3), .mov (.t 12), none⟩,
  ⟨(some 4), .mov (.t 14), none⟩] none)
 (.block 2 (.seq (.region [⟨(some 16), .mov (.t 4), none⟩,
  ⟨(some 17), .call (.c (.fn 72 [] [])) [(.t 16)], none⟩,
  ⟨(some 18), .un .not (.t 17), none⟩,
  ⟨(some 15), .mov (.t 18), none⟩] none)
 (.cond (.t 15) (.seq (.region [⟨(some 2), .mov (.c (.int .i64 3)), none⟩] none)
 (.ret))
 (.seq (.region [⟨(some 20), .mov (.t 4), none⟩,
  ⟨(some 21), .len true (.t 20), none⟩,
  ⟨(some 22), .bin .gtr (.t 21) (.c (.int .i64 24)), none⟩,
  ⟨(some 19), .mov (.t 22), none⟩] none)
 (.cond (.t 19) (.seq (.region [⟨(some 2), .mov (.c (.int .i64 17)), none⟩] none)
 (.ret))
 (.seq (.region [⟨(some 24), .mov (.t 0), none⟩,
  ⟨(some 25), .mov (.t 3), none⟩,
  ⟨(some 26), .slsl 1 (.t 24) none (some (.t 25)) none, none⟩,
  ⟨(some 27), .mov (.t 4), none⟩,
  ⟨(some 28), .call (.c (.fn 73 [] [])) [(.t 26), (.t 27)], none⟩,
  ⟨(some 23), .mov (.t 28), none⟩] none)
 (.cond (.t 23) (.seq (.region [⟨(some 2), .mov (.c (.int .i64 7)), none⟩] none)
 (.ret))
 (.skip))))))))))
 (.region [⟨(some 29), .bin .add (.t 10) (.c (.int .i64 1)), none⟩,
  ⟨(some 10), .mov (.t 29), none⟩] none)))
-- pneumatic/boolexp.names
def ic40 : IC := .seq (.region [⟨(some 2), .mov (.c (.int .i64 0)), none⟩] none)
 (.seq (.seq (.region [⟨(some 5), .mov (.t 0), none⟩,
  ⟨(some 6), .len false (.t 5), none⟩,
  ⟨(some 7), .bin .gtr (.t 6) (.c (.int .i64 256)), none⟩] none)
 (.cond (.t 7) (.seq (.region [⟨(some 2), .mov (.c (.int .i64 5)), none⟩] none)
 (.ret))
 (.skip)))
 (.seq (.seq (.region [⟨(some 8), .mov (.t 0), none⟩,
  ⟨(some 9), .len false (.t 8), none⟩,
  ⟨(some 10), .mov (.c (.int .i64 0)), none⟩] none)
 (.block 0 (.loop b40_0)))
 (.seq (.region [⟨(some 2), .mov (.c (.int .i64 0)), none⟩] none)
 (.ret))))
theorem fn40 : env0.fn 40 = some ⟨30, ic40, [.t 2]⟩ := by kernel_rfl
set_option maxHeartbeats 1000000 in
theorem zta (l : List (List UInt8)) (hls : ∀ s ∈ l, s.length < 9223372036854775808) : PF Try.prog 40 [vsS l] (.int .i64 (nmR l)) := by
 have hml : (l.map fun s => ([.str s] : List AV)).length = l.length := List.length_map ..
 unfold nmR
 refine zbl env0_ok fn40 [(0, vsS l)] (by show 1 ≤ 30; decide) rfl fun w0 N0 => ?_
 unfold ic40
 repeat (first | refine za7 ?_ | refine za0 rfl ?_ | refine za4 ?_ | refine za3 ?_ | refine za2 rfl ?_ | refine zb7 rfl rfl ?_)
 refine zar rfl rfl rfl (fun h => ?_) fun h => ?_
 ·have h : l.length > 256 := by
   have h : (((l.map fun s => ([.str s] : List AV)).length : Nat) : Int) > 256 := of_decide_eq_true h
   omega
  rw [if_pos h]
  repeat (first | refine za7 ?_ | refine za0 rfl ?_ | refine za4 ?_ | refine za3 ?_ | refine zbe rfl ?_ | refine zae ?_ | refine za6 ?_ | refine za2 rfl ?_)
  exact zad ⟨.inr rfl, _, rfl, rfl⟩
 have h256 : l.length ≤ 256 := by
  have h : ¬ (((l.map fun s => ([.str s] : List AV)).length : Nat) : Int) > 256 := of_decide_eq_false h
  omega
 rw [if_neg (by omega)]
 repeat (first | refine za7 ?_ | refine za0 rfl ?_ | refine za4 ?_ | refine za3 ?_ | refine zai ?_ | refine zab ?_ | refine zbi rfl ?_ | refine za2 rfl ?_ | refine zb7 rfl rfl ?_)
 refine zdr (fun mm S => ∃ i, mm = l.length - i ∧ i ≤ l.length ∧ nmL l 0 l = nmL l i (l.drop i) ∧ S = st 30 [(0, vsS l), (8, vsS l), (9, .int .i64 ((l.map fun s => ([.str s] : List AV)).length : Nat)), (10, .int .i64 (i : Nat))] [] 0 0) l.length
  (zal (.cons rfl (.cons rfl (.cons rfl (.cons rfl .nil))))) ⟨0, rfl, Nat.zero_le _, rfl, rfl⟩ ?_
 rintro mm S ⟨i, rfl, hi, hv, rfl⟩
 unfold b40_0
 repeat (first | refine za7 ?_ | refine za0 rfl ?_)
 refine zar rfl rfl rfl (fun h3 => ?_) fun h3 => ?_
 ·have hlt : i < l.length := by
   have h4 : ((i : Nat) : Int) < (((l.map fun s => ([.str s] : List AV)).length : Nat) : Int) := of_decide_eq_true h3
   omega
  have w1 : IntKind.wrap .i64 (((i : Nat) : Int) + 1) = ((i + 1 : Nat) : Int) := zbb i (by omega)
  have hge := zjd hlt
  rw [zl2 hlt] at hv
  have p72 := word72 l[i] (hls _ (List.getElem_mem hlt))
  have p73 := zpv (l.take i) (by rw [List.length_take]; omega) l[i]
  have hE : nmE (l.take i) l[i] = if zg2 l[i] = false then 3 else if l[i].length > 24 then 17 else if (l.take i).contains l[i] = true then 7 else 0 := rfl
  generalize nmE (l.take i) l[i] = e at *
  generalize (l.take i).contains l[i] = cb at *
  generalize l[i] = y at *
  generalize zg2 y = wb at *
  repeat (first | refine za7 ?_ | refine za0 rfl ?_ | refine za4 ?_ | refine za3 ?_ | refine zai ?_ | refine zab ?_ | refine zbe rfl ?_ | refine za2 rfl ?_ | refine zam rfl rfl ?_ | refine zbu rfl rfl (by omega) (by assumption) rfl ?_)
  refine zay rfl rfl p72 (fun h => Bool.noConfusion (show false = true from h)) ?_
  cases wb with
  | false =>
   rw [if_pos rfl] at hE
   rw [hE, if_neg (by decide)] at hv
   repeat (first | refine za7 ?_ | refine za0 rfl ?_ | refine za4 ?_ | refine za3 ?_ | refine zbe rfl ?_ | refine zae ?_ | refine za6 ?_ | refine zaf ?_ | refine za2 rfl ?_ | refine ze6 rfl rfl ?_)
   exact zad ⟨.inr rfl, _, rfl, by rw [hv]; rfl⟩
  | true =>
  rw [if_neg (by decide)] at hE
  repeat (first | refine za7 ?_ | refine za0 rfl ?_ | refine za4 ?_ | refine za3 ?_ | refine zbi rfl ?_ | refine za2 rfl ?_ | refine ze6 rfl rfl ?_ | refine zb7 rfl rfl ?_)
  refine zar rfl rfl rfl (fun h => ?_) fun h => ?_
  ·have h : y.length > 24 := by
    have h : ((y.length : Nat) : Int) > 24 := of_decide_eq_true h
    omega
   rw [if_pos h] at hE
   rw [hE, if_neg (by decide)] at hv
   repeat (first | refine za7 ?_ | refine za0 rfl ?_ | refine za4 ?_ | refine za3 ?_ | refine zbe rfl ?_ | refine zae ?_ | refine za6 ?_ | refine zaf ?_ | refine za2 rfl ?_)
   exact zad ⟨.inr rfl, _, rfl, by rw [hv]; rfl⟩
  have h : ¬ y.length > 24 := by
   have h : ¬ ((y.length : Nat) : Int) > 24 := of_decide_eq_false h
   omega
  rw [if_neg h] at hE
  repeat (first | refine za7 ?_ | refine za0 rfl ?_ | refine za4 ?_ | refine za3 ?_ | refine zbi rfl ?_ | refine za2 rfl ?_)
  refine o_slv (es := l.map fun s => [.str s]) (fs := (l.take i).map fun s => [.str s]) (lv := none) (hv := some (.int .i64 (i : Nat))) (lo := 0) (hh := (i : Nat)) rfl rfl rfl rfl rfl (Int.le_refl 0) (Int.natCast_nonneg i) (by omega) (fun e he => by obtain ⟨s, _, rfl⟩ := List.mem_map.1 he; rfl) (by
   show List.take (((i : Nat) : Int).toNat - 0) _ = _
   rw [Int.toNat_natCast, Nat.sub_zero]
   exact List.map_take.symm) ?_
  repeat (first | refine za2 rfl ?_)
  refine zay rfl rfl p73 (fun h => Bool.noConfusion (show false = true from h)) ?_
  cases cb with
  | true =>
   rw [if_pos rfl] at hE
   rw [hE, if_neg (by decide)] at hv
   repeat (first | refine za7 ?_ | refine za0 rfl ?_ | refine za4 ?_ | refine za3 ?_ | refine zbe rfl ?_ | refine zae ?_ | refine za6 ?_ | refine zaf ?_ | refine za2 rfl ?_)
   exact zad ⟨.inr rfl, _, rfl, by rw [hv]; rfl⟩
  | false =>
   rw [if_neg (by decide)] at hE
   rw [hE, if_pos rfl] at hv
   repeat (first | refine za0 rfl ?_ | refine za4 ?_ | refine za3 ?_ | refine zc2 ?_ | refine zab ?_ | refine zbi rfl ?_ | refine za2 rfl ?_ | refine zb8 (op := .add) rfl rfl rfl ?_)
   rw [w1]
   exact zcj (show l.length - (i + 1) < l.length - i by omega) (zal (.cons rfl (.cons rfl (.cons rfl (.cons rfl .nil))))) ⟨i + 1, rfl, hlt, hv, rfl⟩
 ·have hie : i = l.length := by
   have h4 : ¬ ((i : Nat) : Int) < (((l.map fun s => ([.str s] : List AV)).length : Nat) : Int) := of_decide_eq_false h3
   omega
  rw [hie, List.drop_length] at hv
  repeat (first | refine za7 ?_ | refine za4 ?_ | refine za3 ?_ | refine zbi rfl ?_ | refine zbp ?_ | refine zah ?_)
  refine zeh ?_
  repeat (first | refine za7 ?_ | refine za0 rfl ?_ | refine za4 ?_ | refine za3 ?_ | refine zae ?_ | refine zbo ?_ | refine za2 rfl ?_)
  exact zad ⟨.inr rfl, _, rfl, by rw [hv]; rfl⟩
def b10_0 : IC := .seq (.seq (.region [⟨(some 17), .mov (.t 3), none⟩,
  ⟨(some 18), .mov (.t 0), none⟩,
  ⟨(some 19), .len false (.t 18), none⟩,
  ⟨(some 20), .bin .lss (.t 17) (.t 19), none⟩] none)
 (.cond (.t 20) (.skip)
 (.exit 0)))
 (.seq (.block 1 (.seq (.region [⟨(some 23), .mov (.t 0), none⟩,
  ⟨(some 24), .mov (.t 3), none⟩,
  ⟨(some 25), .idxs 1 (.t 23) (.t 24), none⟩,
  ⟨(some 26), .load none (.t 25), none⟩,
  ⟨(some 27), .len true (.t 26), none⟩,
  ⟨(some 28), .bin .gtr (.t 27) (.c (.int .i64 60)), none⟩] none)
 (.cond (.t 28) (.seq (.region [⟨(some 2), .mov (.c (.bool false)), none⟩] none)
 (.ret))
 (.skip))))
 (.region [⟨(some 21), .mov (.t 3), none⟩,
  ⟨(some 22), .bin .add (.t 21) (.c (.int .i64 1)), none⟩,
  ⟨(some 3), .mov (.t 22), none⟩] none))
-- pneumatic/pneumaticref05.FewNames
def ic10 : IC := .seq (.region [⟨(some 2), .mov (.c (.bool false)), none⟩] none)
 (.seq (.seq (.region [⟨(some 4), .mov (.t 0), none⟩,
  ⟨(some 5), .len false (.t 4), none⟩,
  ⟨(some 6), .bin .gtr (.t 5) (.c (.int .i64 8)), none⟩,
  ⟨(some 7), .mov (.t 6), none⟩,
  ⟨(some 8), .mov (.t 0), some (7, true)⟩,
  ⟨(some 9), .len false (.t 8), some (7, true)⟩,
  ⟨(some 10), .bin .leq (.t 9) (.c (.int .i64 256)), some (7, true)⟩,
  ⟨(some 11), .pick (.t 7) (.t 10) (.c (.bool false)), none⟩,
  ⟨(some 12), .mov (.t 11), none⟩,
  ⟨(some 13), .mov (.t 0), some (12, false)⟩,
  ⟨(some 14), .len false (.t 13), some (12, false)⟩,
  ⟨(some 15), .bin .gtr (.t 14) (.c (.int .i64 512)), some (12, false)⟩,
  ⟨(some 16), .pick (.t 12) (.c (.bool true)) (.t 15), none⟩] none)
 (.cond (.t 16) (.seq (.region [⟨(some 2), .mov (.c (.bool false)), none⟩] none)
 (.ret))
 (.skip)))
 (.seq (.seq (.region [⟨(some 3), .mov (.c (.int .i64 0)), none⟩] none)
 (.block 0 (.loop b10_0)))
 (.seq (.region [⟨(some 2), .mov (.c (.bool true)), none⟩] none)
 (.ret))))
theorem fn10 : env0.fn 10 = some ⟨29, ic10, [.t 2]⟩ := by kernel_rfl
def fewN (l : List (List UInt8)) : Bool := !((decide (l.length > 8) && decide (l.length ≤ 256)) || decide (l.length > 512)) && l.all fun s => !decide (s.length > 60)
def tlD : IC → IC
 | .seq _ b => b
 | x => x
abbrev postV (v : AV) (ras : List RA) (e : Exit) (S' : AS) : Prop := (e = Exit.normal ∨ e = Exit.ret) ∧ ∃ v0, S'.leave.res ras = some v0 ∧ ({ size := 0, tmps := TM.nil, heap := S'.leave.heap, next := S'.leave.next, clk := S'.leave.clk, marks := [] } : AS).view VD v0 = v
theorem rest10 {w0 : World} {N0 : Nat} (l : List (List UInt8)) (hl : l.length < 9223372036854775808) : Zm Try.prog w0 N0 none (tlD (tlD ic10)) (st 29 [(0, vsS l)] [] 0 0) [] (postV (.bool (l.all fun s => !decide (s.length > 60))) [.t 2]) := by
 have hml : (l.map fun s => ([.str s] : List AV)).length = l.length := List.length_map ..
 show Zm _ _ _ _ (.seq _ _) _ _ _
 repeat (first | refine za7 ?_ | refine za0 rfl ?_ | refine za4 ?_ | refine za3 ?_ | refine zai ?_ | refine za2 rfl ?_)
 refine zdr (fun mm S => ∃ i, mm = l.length - i ∧ i ≤ l.length ∧ (l.all fun s => !decide (s.length > 60)) = ((l.drop i).all fun s => !decide (s.length > 60)) ∧ S = st 29 [(0, vsS l), (3, .int .i64 (i : Nat))] [] 0 0) l.length
  (zal (.cons rfl (.cons rfl .nil))) ⟨0, rfl, Nat.zero_le _, rfl, rfl⟩ ?_
 rintro mm S ⟨i, rfl, hi, hv, rfl⟩
 unfold b10_0
 repeat (first | refine za7 ?_ | refine za0 rfl ?_ | refine za2 rfl ?_ | refine zb7 rfl rfl ?_)
 refine zar rfl rfl rfl (fun h3 => ?_) fun h3 => ?_
 ·have hlt : i < l.length := by
   have h4 : ((i : Nat) : Int) < (((l.map fun s => ([.str s] : List AV)).length : Nat) : Int) := of_decide_eq_true h3
   omega
  have w1 : IntKind.wrap .i64 (((i : Nat) : Int) + 1) = ((i + 1 : Nat) : Int) := zbb i (by omega)
  have hge := zjd hlt
  rw [List.drop_eq_getElem_cons hlt, List.all_cons] at hv
  generalize l[i] = y at *
  repeat (first | refine za7 ?_ | refine za0 rfl ?_ | refine za4 ?_ | refine za3 ?_ | refine zai ?_ | refine zab ?_ | refine zbe rfl ?_ | refine za2 rfl ?_ | refine zam rfl rfl ?_ | refine zb7 rfl rfl ?_ | refine zbu rfl rfl (by omega) (by assumption) rfl ?_)
  refine zar rfl rfl rfl (fun h => ?_) fun h => ?_
  ·have h : y.length > 60 := by
    have h : ((y.length : Nat) : Int) > 60 := of_decide_eq_true h
    omega
   rw [decide_eq_true h, Bool.not_true, Bool.false_and] at hv
   repeat (first | refine za7 ?_ | refine za0 rfl ?_ | refine za4 ?_ | refine za3 ?_ | refine zbe rfl ?_ | refine zae ?_ | refine za6 ?_ | refine zaf ?_ | refine za2 rfl ?_)
   exact zad ⟨.inr rfl, _, rfl, by rw [hv]; rfl⟩
  ·have h : ¬ y.length > 60 := by
    have h : ¬ ((y.length : Nat) : Int) > 60 := of_decide_eq_false h
    omega
   rw [decide_eq_false h, Bool.not_false, Bool.true_and] at hv
   repeat (first | refine za0 rfl ?_ | refine za4 ?_ | refine za3 ?_ | refine zc2 ?_ | refine zab ?_ | refine zbi rfl ?_ | refine za2 rfl ?_ | refine zb8 (op := .add) rfl rfl rfl ?_)
   rw [w1]
   exact zcj (show l.length - (i + 1) < l.length - i by omega) (zal (.cons rfl (.cons rfl .nil))) ⟨i + 1, rfl, hlt, hv, rfl⟩
 ·have hie : i = l.length := by
   have h4 : ¬ ((i : Nat) : Int) < (((l.map fun s => ([.str s] : List AV)).length : Nat) : Int) := of_decide_eq_false h3
   omega
  rw [hie, List.drop_length, List.all_nil] at hv
  repeat (first | refine za4 ?_ | refine za3 ?_ | refine zbi rfl ?_ | refine zbp ?_ | refine zah ?_)
  refine zeh ?_
  repeat (first | refine za7 ?_ | refine za0 rfl ?_ | refine za4 ?_ | refine za3 ?_ | refine zae ?_ | refine zbo ?_ | refine za2 rfl ?_)
  exact zad ⟨.inr rfl, _, rfl, by rw [hv]; rfl⟩
set_option maxHeartbeats 1000000 in
theorem zpy (l : List (List UInt8)) (hl : l.length < 9223372036854775808) : ∃ b, PF Try.prog 10 [vsS l] (.bool b) ∧ (b = true → l.length ≤ 512 ∧ ∀ s ∈ l, s.length ≤ 60) := by
 have hml : (l.map fun s => ([.str s] : List AV)).length = l.length := List.length_map ..
 refine ⟨fewN l, ?_, fun h => ?_⟩
 ·unfold fewN
  refine zbl env0_ok fn10 [(0, vsS l)] (by show 1 ≤ 29; decide) rfl fun w0 N0 => ?_
  unfold ic10
  have hr := rest10 (w0 := w0) (N0 := N0) l hl
  unfold ic10 at hr
  repeat (first | refine za7 ?_ | refine za0 rfl ?_ | refine za4 ?_ | refine za3 ?_ | refine za2 rfl ?_ | refine zb7 rfl rfl ?_)
  refine zar rfl rfl rfl (fun h => ?_) fun h => ?_
  ·have h : l.length > 8 := by
    have h : (((l.map fun s => ([.str s] : List AV)).length : Nat) : Int) > 8 := of_decide_eq_true h
    omega
   rw [decide_eq_true h, Bool.true_and]
   repeat (first | refine zbz rfl ?_ | refine za2 rfl ?_ | refine zb7 rfl rfl ?_)
   refine zar rfl rfl rfl (fun h2 => ?_) fun h2 => ?_
   ·have h2 : l.length ≤ 256 := by
     have h2 : (((l.map fun s => ([.str s] : List AV)).length : Nat) : Int) ≤ 256 := of_decide_eq_true h2
     omega
    rw [decide_eq_true h2]
    repeat (first | refine za7 ?_ | refine za0 rfl ?_ | refine za4 ?_ | refine za3 ?_ | refine zbe rfl ?_ | refine zae ?_ | refine za6 ?_ | refine zcz rfl rfl ?_ | refine za2 rfl ?_ | refine zag rfl rfl ?_)
    exact zad ⟨.inr rfl, _, rfl, rfl⟩
   ·have h2 : ¬ l.length ≤ 256 := by
     have h2 : ¬ (((l.map fun s => ([.str s] : List AV)).length : Nat) : Int) ≤ 256 := of_decide_eq_false h2
     omega
    rw [decide_eq_false h2, Bool.false_or]
    repeat (first | refine zbz rfl ?_ | refine za2 rfl ?_ | refine zag rfl rfl ?_ | refine zb7 rfl rfl ?_)
    refine zar rfl rfl rfl (fun h3 => ?_) fun h3 => ?_
    ·have h3 : l.length > 512 := by
      have h3 : (((l.map fun s => ([.str s] : List AV)).length : Nat) : Int) > 512 := of_decide_eq_true h3
      omega
     rw [decide_eq_true h3]
     repeat (first | refine za7 ?_ | refine za0 rfl ?_ | refine za4 ?_ | refine za3 ?_ | refine zbe rfl ?_ | refine zae ?_ | refine za6 ?_ | refine za2 rfl ?_ | refine zaa rfl rfl ?_)
     exact zad ⟨.inr rfl, _, rfl, rfl⟩
    ·have h3 : ¬ l.length > 512 := by
      have h3 : ¬ (((l.map fun s => ([.str s] : List AV)).length : Nat) : Int) > 512 := of_decide_eq_false h3
      omega
     rw [decide_eq_false h3, Bool.not_false, Bool.true_and]
     repeat (first | refine za4 ?_ | refine za3 ?_ | refine zab ?_ | refine zbi rfl ?_ | refine zaa rfl rfl ?_)
     exact zfo (zal (.cons rfl .nil)) hr
  ·have h : ¬ l.length > 8 := by
    have h : ¬ (((l.map fun s => ([.str s] : List AV)).length : Nat) : Int) > 8 := of_decide_eq_false h
    omega
   rw [decide_eq_false h, Bool.false_and, Bool.false_or]
   repeat (first | refine zbz rfl ?_ | refine zcz rfl rfl ?_ | refine za2 rfl ?_ | refine zaa rfl rfl ?_ | refine zb7 rfl rfl ?_)
   refine zav rfl rfl (show some (AV.bool (decide ((((l.map fun s => ([.str s] : List AV)).length : Nat) : Int) > 512))) = _ by rw [decide_eq_false (by omega)]) ?_
   rw [decide_eq_false (by omega), Bool.not_false, Bool.true_and]
   repeat (first | refine za4 ?_ | refine za3 ?_ | refine zab ?_ | refine zbi rfl ?_ | refine zaa rfl rfl ?_)
   exact zfo (zal (.cons rfl .nil)) hr
 ·unfold fewN at h
  obtain ⟨h1, h2⟩ := Bool.and_eq_true_iff.1 h
  refine ⟨?_, fun s hs => ?_⟩
  ·simp at h1
   omega
  ·have := List.all_eq_true.1 h2 s hs
   simp at this
   omega
def b12_2 : IC := .seq (.seq (.region [⟨(some 29), .mov (.t 5), none⟩,
  ⟨(some 30), .mov (.t 4), none⟩,
  ⟨(some 31), .len true (.t 30), none⟩,
  ⟨(some 32), .bin .lss (.t 29) (.t 31), none⟩] none)
 (.cond (.t 32) (.skip)
 (.exit 2)))
 (.seq (.block 3 (.seq (.region [⟨(some 35), .mov (.t 4), none⟩,
  ⟨(some 36), .mov (.t 5), none⟩,
  ⟨(some 37), .idxstr (.t 35) (.t 36), none⟩,
  ⟨(some 38), .call (.c (.fn 37 [] [])) [(.t 37)], none⟩,
  ⟨(some 39), .un .not (.t 38), none⟩] none)
 (.cond (.t 39) (.seq (.region [⟨(some 2), .mov (.c (.int .i64 3)), none⟩] none)
 (.ret))
 (.skip))))
 (.region [⟨(some 33), .mov (.t 5), none⟩,
  ⟨(some 34), .bin .add (.t 33) (.c (.int .i64 1)), none⟩,
  ⟨(some 5), .mov (.t 34), none⟩] none))
def b12_4 : IC := .seq (.seq (.region [⟨(some 43), .mov (.t 6), none⟩,
  ⟨(some 44), .mov (.t 3), none⟩,
  ⟨(some 45), .bin .lss (.t 43) (.t 44), none⟩] none)
 (.cond (.t 45) (.skip)
 (.exit 4)))
 (.seq (.block 5 (.seq (.region [⟨(some 48), .mov (.t 0), none⟩,
  ⟨(some 49), .mov (.t 6), none⟩,
  ⟨(some 50), .idxs 1 (.t 48) (.t 49), none⟩,
  ⟨(some 51), .load none (.t 50), none⟩,
  ⟨(some 52), .mov (.t 4), none⟩,
  ⟨(some 53), .bin .eql (.t 51) (.t 52), none⟩] none)
 (.cond (.t 53) (.seq (.region [⟨(some 2), .mov (.c (.int .i64 7)), none⟩] none)
 (.ret))
 (.skip))))
 (.region [⟨(some 46), .mov (.t 6), none⟩,
  ⟨(some 47), .bin .add (.t 46) (.c (.int .i64 1)), none⟩,
  ⟨(some 6), .mov (.t 47), none⟩] none))
def b12_0 : IC := .seq (.seq (.region [⟨(some 10), .mov (.t 3), none⟩,
  ⟨(some 11), .mov (.t 0), none⟩,
  ⟨(some 12), .len false (.t 11), none⟩,
  ⟨(some 13), .bin .lss (.t 10) (.t 12), none⟩] none)
 (.cond (.t 13) (.skip)
 (.exit 0)))
 (.seq (.block 1 (.seq (.region [⟨(some 16), .mov (.t 0), none⟩,
  ⟨(some 17), .mov (.t 3), none⟩,
  ⟨(some 18), .idxs 1 (.t 16) (.t 17), none⟩,
  ⟨(some 19), .load none (.t 18), none⟩,
  ⟨(some 4), .mov (.t 19), none⟩] none)
 (.seq (.seq (.region [⟨(some 20), .mov (.t 4), none⟩,
  ⟨(some 21), .len true (.t 20), none⟩,
  ⟨(some 22), .bin .eql (.t 21) (.c (.int .i64 0)), none⟩,
  ⟨(some 23), .mov (.t 22), none⟩,
  ⟨(some 24), .mov (.t 4), some (23, false)⟩,
  ⟨(some 25), .idxstr (.t 24) (.c (.int .i64 0)), some (23, false)⟩,
  ⟨(some 26), .call (.c (.fn 36 [] [])) [(.t 25)], some (23, false)⟩,
  ⟨(some 27), .un .not (.t 26), some (23, false)⟩,
  ⟨(some 28), .pick (.t 23) (.c (.bool true)) (.t 27), none⟩] none)
 (.cond (.t 28) (.seq (.region [⟨(some 2), .mov (.c (.int .i64 3)), none⟩] none)
 (.ret))
 (.skip)))
 (.seq (.seq (.region [⟨(some 5), .mov (.c (.int .i64 0)), none⟩] none)
 (.block 2 (.loop b12_2)))
 (.seq (.seq (.region [⟨(some 40), .mov (.t 4), none⟩,
  ⟨(some 41), .len true (.t 40), none⟩,
  ⟨(some 42), .bin .gtr (.t 41) (.c (.int .i64 24)), none⟩] none)
 (.cond (.t 42) (.seq (.region [⟨(some 2), .mov (.c (.int .i64 17)), none⟩] none)
 (.ret))
 (.skip)))
 (.seq (.region [⟨(some 6), .mov (.c (.int .i64 0)), none⟩] none)
 (.block 4 (.loop b12_4))))))))
 (.region [⟨(some 14), .mov (.t 3), none⟩,
  ⟨(some 15), .bin .add (.t 14) (.c (.int .i64 1)), none⟩,
  ⟨(some 3), .mov (.t 15), none⟩] none))
-- pneumatic/pneumaticref05.Names
def ic12 : IC := .seq (.region [⟨(some 2), .mov (.c (.int .i64 0)), none⟩] none)
 (.seq (.seq (.region [⟨(some 7), .mov (.t 0), none⟩,
  ⟨(some 8), .len false (.t 7), none⟩,
  ⟨(some 9), .bin .gtr (.t 8) (.c (.int .i64 256)), none⟩] none)
 (.cond (.t 9) (.seq (.region [⟨(some 2), .mov (.c (.int .i64 5)), none⟩] none)
 (.ret))
 (.skip)))
 (.seq (.seq (.region [⟨(some 3), .mov (.c (.int .i64 0)), none⟩] none)
 (.block 0 (.loop b12_0)))
 (.seq (.region [⟨(some 2), .mov (.c (.int .i64 0)), none⟩] none)
 (.ret))))
theorem fn12 : env0.fn 12 = some ⟨54, ic12, [.t 2]⟩ := by kernel_rfl
set_option maxHeartbeats 2000000 in
theorem names12 (l : List (List UInt8)) (hls : ∀ s ∈ l, s.length < 9223372036854775808) : PF Try.prog 12 [vsS l] (.int .i64 (nmR l)) := by
 have hml : (l.map fun s => ([.str s] : List AV)).length = l.length := List.length_map ..
 unfold nmR
 refine zbl env0_ok fn12 [(0, vsS l)] (by show 1 ≤ 54; decide) rfl fun w0 N0 => ?_
 unfold ic12
 repeat (first | refine za7 ?_ | refine za0 rfl ?_ | refine za4 ?_ | refine za3 ?_ | refine za2 rfl ?_ | refine zb7 rfl rfl ?_)
 refine zar rfl rfl rfl (fun h => ?_) fun h => ?_
 ·have h : l.length > 256 := by
   have h : (((l.map fun s => ([.str s] : List AV)).length : Nat) : Int) > 256 := of_decide_eq_true h
   omega
  rw [if_pos h]
  repeat (first | refine za7 ?_ | refine za0 rfl ?_ | refine za4 ?_ | refine za3 ?_ | refine zbe rfl ?_ | refine zae ?_ | refine za6 ?_ | refine za2 rfl ?_)
  exact zad ⟨.inr rfl, _, rfl, rfl⟩
 have h256 : l.length ≤ 256 := by
  have h : ¬ (((l.map fun s => ([.str s] : List AV)).length : Nat) : Int) > 256 := of_decide_eq_false h
  omega
 rw [if_neg (by omega)]
 repeat (first | refine za7 ?_ | refine za0 rfl ?_ | refine za4 ?_ | refine za3 ?_ | refine zai ?_ | refine zab ?_ | refine zbi rfl ?_ | refine za2 rfl ?_)
 refine zdr (fun mm S => ∃ i, mm = l.length - i ∧ i ≤ l.length ∧ nmL l 0 l = nmL l i (l.drop i) ∧ S = st 54 [(0, vsS l), (3, .int .i64 (i : Nat))] [] 0 0) l.length
  (zal (.cons rfl (.cons rfl .nil))) ⟨0, rfl, Nat.zero_le _, rfl, rfl⟩ ?_
 rintro mm S ⟨i, rfl, hi, hv, rfl⟩
 unfold b12_0
 repeat (first | refine za7 ?_ | refine za0 rfl ?_ | refine za2 rfl ?_ | refine zb7 rfl rfl ?_)
 refine zar rfl rfl rfl (fun h3 => ?_) fun h3 => ?_
 ·have hlt : i < l.length := by
   have h4 : ((i : Nat) : Int) < (((l.map fun s => ([.str s] : List AV)).length : Nat) : Int) := of_decide_eq_true h3
   omega
  have w1 : IntKind.wrap .i64 (((i : Nat) : Int) + 1) = ((i + 1 : Nat) : Int) := zbb i (by omega)
  have hge := zjd hlt
  rw [zl2 hlt] at hv
  have hyl := hls _ (List.getElem_mem hlt)
  have hE : nmE (l.take i) l[i] = if zg2 l[i] = false then 3 else if l[i].length > 24 then 17 else if (l.take i).contains l[i] = true then 7 else 0 := rfl
  have hct : (l.take i).contains l[i] = (l.take i).any fun z => z == l[i] := by
   rw [List.contains_eq_any_beq]
   congr 1
   funext z
   rw [Bool.eq_iff_iff, beq_iff_eq, beq_iff_eq]
   exact ⟨Eq.symm, Eq.symm⟩
  generalize nmE (l.take i) l[i] = e at *
  generalize l[i] = y at *
  rw [hct] at hE
  have three : zg2 y = false → nmL l 0 l = 3 := fun h => by
   rw [if_pos h] at hE
   rw [hE, if_neg (by decide)] at hv
   exact hv
  clear hct
  match y, hyl, hE, three, hge with
  | [], hyl, hE, three, hge =>
   repeat (first | refine za7 ?_ | refine za0 rfl ?_ | refine za4 ?_ | refine za3 ?_ | refine zai ?_ | refine zab ?_ | refine zbe rfl ?_ | refine zae ?_ | refine za6 ?_ | refine zaf ?_ | refine zcz rfl rfl ?_ | refine za2 rfl ?_ | refine zam rfl rfl ?_ | refine zag rfl rfl ?_ | refine zb7 rfl rfl ?_ | refine zbm rfl rfl rfl ?_ | refine zbu rfl rfl (by omega) (by assumption) rfl ?_)
   exact zad ⟨.inr rfl, _, rfl, by rw [three rfl]; rfl⟩
  | b :: r, hyl, hE, three, hge =>
  have p36 := letter36 b
  have hw : zg2 (b :: r) = ((b :: r).all (fun b => zdm b.toNat) && zdt b.toNat) := rfl
  generalize zg2 (b :: r) = wb at *
  generalize zdt b.toNat = lb at *
  repeat (first | refine za7 ?_ | refine za0 rfl ?_ | refine za4 ?_ | refine za3 ?_ | refine zai ?_ | refine zab ?_ | refine zbe rfl ?_ | refine zbz rfl ?_ | refine za2 rfl ?_ | refine zam rfl rfl ?_ | refine zb7 rfl rfl ?_ | refine zav rfl rfl rfl ?_ | refine zbu rfl rfl (by omega) (by assumption) rfl ?_)
  refine zjk rfl rfl (Int.le_refl 0) (by rfl) ?_
  repeat (first | refine zbz rfl ?_)
  refine zay rfl rfl p36 (fun h => Bool.noConfusion (show false = true from h)) ?_
  cases lb with
  | false =>
   rw [Bool.and_false] at hw
   repeat (first | refine za7 ?_ | refine za0 rfl ?_ | refine za4 ?_ | refine za3 ?_ | refine zbe rfl ?_ | refine zae ?_ | refine za6 ?_ | refine zaf ?_ | refine zbz rfl ?_ | refine za2 rfl ?_ | refine zaa rfl rfl ?_ | refine ze6 rfl rfl ?_)
   exact zad ⟨.inr rfl, _, rfl, by rw [three hw]; rfl⟩
  | true =>
  rw [Bool.and_true] at hw
  generalize hY : b :: r = y at *
  repeat (first | refine za7 ?_ | refine za0 rfl ?_ | refine za4 ?_ | refine za3 ?_ | refine zai ?_ | refine zab ?_ | refine zbi rfl ?_ | refine zbz rfl ?_ | refine za2 rfl ?_ | refine zaa rfl rfl ?_ | refine ze6 rfl rfl ?_)
  refine zdr (fun mm S => ∃ k, mm = y.length - k ∧ k ≤ y.length ∧ wb = (y.drop k).all (fun b => zdm b.toNat) ∧ S = st 54 [(0, vsS l), (3, .int .i64 (i : Nat)), (4, .str y), (5, .int .i64 (k : Nat))] [] 0 0) y.length
   (zal (.cons rfl (.cons rfl (.cons rfl (.cons rfl .nil))))) ⟨0, rfl, Nat.zero_le _, hw, rfl⟩ ?_
  rintro mm S ⟨k, rfl, hk, hk2, rfl⟩
  unfold b12_2
  repeat (first | refine za7 ?_ | refine za0 rfl ?_ | refine za2 rfl ?_ | refine zb7 rfl rfl ?_)
  refine zar rfl rfl rfl (fun h4 => ?_) fun h4 => ?_
  ·have hkt : k < y.length := by
    have h5 : ((k : Nat) : Int) < ((y.length : Nat) : Int) := of_decide_eq_true h4
    omega
   have w2 : IntKind.wrap .i64 (((k : Nat) : Int) + 1) = ((k + 1 : Nat) : Int) := zbb k (by omega)
   have hg : y[((k : Nat) : Int).toNat]? = some y[k] := by rw [Int.toNat_natCast, List.getElem?_eq_getElem hkt]
   have p37 := inner37 y[k]
   rw [List.drop_eq_getElem_cons hkt, List.all_cons] at hk2
   generalize y[k] = c at *
   generalize zdm c.toNat = ib at *
   repeat (first | refine za7 ?_ | refine za0 rfl ?_ | refine za4 ?_ | refine za3 ?_ | refine zai ?_ | refine zab ?_ | refine zbe rfl ?_ | refine za2 rfl ?_)
   refine zjk rfl rfl (Int.natCast_nonneg k) hg ?_
   refine zay rfl rfl p37 (fun h => Bool.noConfusion (show false = true from h)) ?_
   cases ib with
   | false =>
    rw [Bool.false_and] at hk2
    repeat (first | refine za7 ?_ | refine za0 rfl ?_ | refine za4 ?_ | refine za3 ?_ | refine zbe rfl ?_ | refine zae ?_ | refine za6 ?_ | refine zaf ?_ | refine za2 rfl ?_ | refine ze6 rfl rfl ?_)
    exact zad ⟨.inr rfl, _, rfl, by rw [three hk2]; rfl⟩
   | true =>
    rw [Bool.true_and] at hk2
    repeat (first | refine za0 rfl ?_ | refine za4 ?_ | refine za3 ?_ | refine zc2 ?_ | refine zab ?_ | refine zbi rfl ?_ | refine za2 rfl ?_ | refine ze6 rfl rfl ?_ | refine zb8 (op := .add) rfl rfl rfl ?_)
    rw [w2]
    exact zcj (show y.length - (k + 1) < y.length - k by omega) (zal (.cons rfl (.cons rfl (.cons rfl (.cons rfl .nil))))) ⟨k + 1, rfl, hkt, hk2, rfl⟩
  have hke : k = y.length := by
   have h5 : ¬ ((k : Nat) : Int) < ((y.length : Nat) : Int) := of_decide_eq_false h4
   omega
  rw [hke, List.drop_length, List.all_nil] at hk2
  rw [if_neg (by rw [hk2]; decide)] at hE
  repeat (first | refine za4 ?_ | refine za3 ?_ | refine zbi rfl ?_ | refine zbp ?_ | refine zah ?_)
  refine zeh ?_
  repeat (first | refine za7 ?_ | refine za0 rfl ?_ | refine za3 ?_ | refine zbo ?_ | refine za2 rfl ?_ | refine zb7 rfl rfl ?_)
  refine zar rfl rfl rfl (fun h => ?_) fun h => ?_
  ·have h : y.length > 24 := by
    have h : ((y.length : Nat) : Int) > 24 := of_decide_eq_true h
    omega
   rw [if_pos h] at hE
   rw [hE, if_neg (by decide)] at hv
   repeat (first | refine za7 ?_ | refine za0 rfl ?_ | refine za4 ?_ | refine za3 ?_ | refine zbe rfl ?_ | refine zae ?_ | refine za6 ?_ | refine zaf ?_ | refine za2 rfl ?_)
   exact zad ⟨.inr rfl, _, rfl, by rw [hv]; rfl⟩
  have h : ¬ y.length > 24 := by
   have h : ¬ ((y.length : Nat) : Int) > 24 := of_decide_eq_false h
   omega
  rw [if_neg h] at hE
  have hti : (l.take i).length = i := by rw [List.length_take]; omega
  have htg : ∀ k (hk : k < i), (l.take i)[k]'(by omega) = l[k]'(by omega) := fun k hk => List.getElem_take ..
  repeat (first | refine za7 ?_ | refine za0 rfl ?_ | refine za4 ?_ | refine za3 ?_ | refine zai ?_ | refine zab ?_ | refine zbi rfl ?_ | refine za2 rfl ?_)
  refine zdr (fun mm S => ∃ k, mm = i - k ∧ k ≤ i ∧ ((l.take i).any fun z => z == y) = (((l.take i).drop k).any fun z => z == y) ∧ S = st 54 [(0, vsS l), (3, .int .i64 (i : Nat)), (4, .str y), (6, .int .i64 (k : Nat))] [] 0 0) i
   (zal (.cons rfl (.cons rfl (.cons rfl (.cons rfl .nil))))) ⟨0, rfl, Nat.zero_le _, rfl, rfl⟩ ?_
  rintro mm S ⟨k, rfl, hk, hk2, rfl⟩
  unfold b12_4
  repeat (first | refine za7 ?_ | refine za0 rfl ?_ | refine za2 rfl ?_)
  refine zar rfl rfl rfl (fun h4 => ?_) fun h4 => ?_
  ·have hkt : k < i := by
    have h5 : ((k : Nat) : Int) < ((i : Nat) : Int) := of_decide_eq_true h4
    omega
   have w2 : IntKind.wrap .i64 (((k : Nat) : Int) + 1) = ((k + 1 : Nat) : Int) := zbb k (by omega)
   have hgk := zjd (l := l) (i := k) (by omega)
   rw [List.drop_eq_getElem_cons (by omega), List.any_cons, htg k hkt] at hk2
   generalize l[k] = z at *
   repeat (first | refine za7 ?_ | refine za0 rfl ?_ | refine za4 ?_ | refine za3 ?_ | refine zai ?_ | refine zab ?_ | refine zbe rfl ?_ | refine za2 rfl ?_ | refine zam rfl rfl ?_ | refine zbu rfl rfl (by omega) (by assumption) rfl ?_)
   refine zar rfl rfl rfl (fun h => ?_) fun h => ?_
   ·rw [h, Bool.true_or] at hk2
    rw [if_pos hk2] at hE
    rw [hE, if_neg (by decide)] at hv
    repeat (first | refine za7 ?_ | refine za0 rfl ?_ | refine za4 ?_ | refine za3 ?_ | refine zbe rfl ?_ | refine zae ?_ | refine za6 ?_ | refine zaf ?_ | refine za2 rfl ?_)
    exact zad ⟨.inr rfl, _, rfl, by rw [hv]; rfl⟩
   ·rw [h, Bool.false_or] at hk2
    repeat (first | refine za0 rfl ?_ | refine za4 ?_ | refine za3 ?_ | refine zc2 ?_ | refine zab ?_ | refine zbi rfl ?_ | refine za2 rfl ?_ | refine zb8 (op := .add) rfl rfl rfl ?_)
    rw [w2]
    exact zcj (show i - (k + 1) < i - k by omega) (zal (.cons rfl (.cons rfl (.cons rfl (.cons rfl .nil))))) ⟨k + 1, rfl, hkt, hk2, rfl⟩
  have hke : k = i := by
   have h5 : ¬ ((k : Nat) : Int) < ((i : Nat) : Int) := of_decide_eq_false h4
   omega
  rw [hke, List.drop_of_length_le (by omega), List.any_nil] at hk2
  rw [if_neg (by rw [hk2]; decide)] at hE
  rw [hE, if_pos rfl] at hv
  repeat (first | refine za4 ?_ | refine za3 ?_ | refine zbi rfl ?_ | refine zbp ?_ | refine zah ?_)
  refine zeh ?_
  repeat (first | refine za0 rfl ?_ | refine za4 ?_ | refine za3 ?_ | refine zc2 ?_ | refine zbo ?_ | refine za2 rfl ?_ | refine zb8 (op := .add) rfl rfl rfl ?_)
  rw [w1]
  exact zcj (show l.length - (i + 1) < l.length - i by omega) (zal (.cons rfl (.cons rfl .nil))) ⟨i + 1, rfl, hlt, hv, rfl⟩
 ·have hie : i = l.length := by
   have h4 : ¬ ((i : Nat) : Int) < (((l.map fun s => ([.str s] : List AV)).length : Nat) : Int) := of_decide_eq_false h3
   omega
  rw [hie, List.drop_length] at hv
  repeat (first | refine za4 ?_ | refine za3 ?_ | refine zbi rfl ?_ | refine zbp ?_ | refine zah ?_)
  refine zeh ?_
  repeat (first | refine za7 ?_ | refine za0 rfl ?_ | refine za4 ?_ | refine za3 ?_ | refine zae ?_ | refine zbo ?_ | refine za2 rfl ?_)
  exact zad ⟨.inr rfl, _, rfl, by rw [hv]; rfl⟩
end Go.Proofs.Ytmnkjofaodbokaa
namespace Go.Proofs.Ytmnkjofaodbokaa
open Go Go.Am
def u8s (T : List UInt8) : List AV := T.map fun b => .int .u8 b.toNat
def e8s (T : List UInt8) : List (List AV) := T.map fun b => [.int .u8 b.toNat]
theorem zhi : ∀ T : List UInt8, (e8s T).flatten = u8s T
 | [] => rfl
 | b :: T => by
  show [AV.int .u8 b.toNat] ++ (e8s T).flatten = _
  rw [zhi T]; rfl
theorem zu8 (T : List UInt8) : (u8s T).all AV.isCell = true := by
 rw [List.all_eq_true]
 intro x hx
 obtain ⟨b, _, rfl⟩ := List.mem_map.1 hx
 rfl
theorem zi7 : ∀ T : List UInt8, zf6 (u8s T) = some T
 | [] => rfl
 | b :: T => by
  show (if 0 ≤ ((b.toNat : Nat) : Int) ∧ ((b.toNat : Nat) : Int) < 256 then (zf6 (u8s T)).map ((((b.toNat : Nat) : Int).toNat.toUInt8) :: ·) else none) = _
  have := b.toNat_lt
  rw [if_pos ⟨by omega, by omega⟩, zi7 T, Int.toNat_natCast]
  show some (b.toNat.toUInt8 :: T) = _
  rw [show b.toNat.toUInt8 = b from UInt8.ofNat_toNat]
def Bq (T : List UInt8) (B : AV) (j : Nat) (hp : List (Nat × Nat × AObj)) (nx : Nat) : Prop :=
 (T = [] ∧ B = .nils) ∨ ∃ id sp, B = .ms id sp 1 0 T.length none ∧ Am.look id hp = some (sp, .typed 5 false (u8s T)) ∧ id ≠ j ∧ id < nx
structure Wq (T : List UInt8) (nm : AV) (j sj : Nat) (A B : AV) (hp : List (Nat × Nat × AObj)) (nx : Nat) : Prop where
 obj : Am.look j hp = some (sj, .typed 85 true [A, B, nm])
 adr : A = .nilp ∨ A = .mptr j sj 0
 buf : Bq T B j hp nx
 jn : j < nx
section
variable {T : List UInt8} {nm A B : AV} {j sj nx : Nat} {hp : List (Nat × Nat × AObj)}
theorem Bq.fresh (h : Bq T B j hp nx) (ck : Nat) (x : AObj) : Bq T B j ((nx, ck, x) :: hp) (nx + 1) := by
 rcases h with h | ⟨id, sp, e, hl, h1, h2⟩
 ·exact .inl h
 ·exact .inr ⟨id, sp, e, by rw [zaj, if_neg (by omega)]; exact hl, h1, by omega⟩
theorem Bq.put (h : Bq T B j hp nx) (x : Nat × AObj) : Bq T B j (zb6 j x hp) nx := by
 rcases h with h | ⟨id, sp, e, hl, h1, h2⟩
 ·exact .inl h
 ·exact .inr ⟨id, sp, e, by rw [za1, if_neg (by omega)]; exact hl, h1, h2⟩
theorem Wq.fresh (h : Wq T nm j sj A B hp nx) (ck : Nat) (x : AObj) : Wq T nm j sj A B ((nx, ck, x) :: hp) (nx + 1) := by
 have := h.jn
 exact ⟨by rw [zaj, if_neg (by omega)]; exact h.obj, h.adr, h.buf.fresh ck x, by omega⟩
theorem Wq.drop1 (h : Wq T nm j sj A B hp nx) (ck : Nat) (x : AObj) : Wq T nm j sj A B (zbj nx ((nx, ck, x) :: hp)) (nx + 1) := by
 have := h.jn
 refine ⟨by rw [zac, if_neg (by omega), zaj, if_neg (by omega)]; exact h.obj, h.adr, ?_, by omega⟩
 rcases h.buf with h | ⟨id, sp, e, hl, h1, h2⟩
 ·exact .inl h
 ·exact .inr ⟨id, sp, e, by rw [zac, if_neg (by omega), zaj, if_neg (by omega)]; exact hl, h1, by omega⟩
theorem Wq.box (h : Wq T nm j sj A B hp nx) (ck : Nat) (x : AObj) (y : Nat × AObj) : Wq T nm j sj A B (zbj nx (zb6 nx y ((nx, ck, x) :: hp))) (nx + 1) := by
 have := h.jn
 refine ⟨by rw [zac, if_neg (by omega), za1, if_neg (by omega), zaj, if_neg (by omega)]; exact h.obj, h.adr, ?_, by omega⟩
 rcases h.buf with h | ⟨id, sp, e, hl, h1, h2⟩
 ·exact .inl h
 ·exact .inr ⟨id, sp, e, by rw [zac, if_neg (by omega), za1, if_neg (by omega), zaj, if_neg (by omega)]; exact hl, h1, by omega⟩
theorem Bq.cell (h : Bq T B j hp nx) : B.isCell = true ∧ B.cells? = some [B] := by
 rcases h with ⟨rfl, rfl⟩ | ⟨id, sp, rfl, _, _, _⟩
 ·exact ⟨rfl, rfl⟩
 ·exact ⟨rfl, rfl⟩
end
section
variable {P : Program} {w0 : World} {N0 : Nat} {k : List Fr} {Q : Exit → AS → Prop} {pf : Kn} {ios : List Opr} {n nx ck : Nat} {mk : List (Nat × Nat)} {md : Md} {l : List (Nat × AV)} {hp : List (Nat × Nat × AObj)}
theorem zmg {d : Nat} {a : Arg} {id sp off : Nat} {Ty : TypeId} {f : Bool} {cs : List AV} {v : AV} (h : zbc a l = some (.mptr id sp off)) (hl : Am.look id hp = some (sp, .typed Ty f cs)) (hid : id < nx) (hv : cs[off]? = some v) (go : Om P w0 N0 md pf ios (st n ((d, v) :: l) hp nx ck mk) k Q) (hx : Ops pf (st n l hp nx ck mk) (.load none a) := by first | exact fun _ _ _ _ => rfl | exact ldOk rfl rfl) :
  Om P w0 N0 md pf (⟨some d, .load none a, none⟩ :: ios) (st n l hp nx ck mk) k Q := by
 obtain ⟨h1, h2⟩ := List.getElem?_eq_some_iff.1 hv
 refine zam h (cs := cs.drop (off + 1)) ?_ go hx
 simp only [zha, hl]
 rw [if_pos ⟨trivial, hid⟩, List.drop_eq_getElem_cons h1, h2]
theorem o_stT {p x : Arg} {id sp off : Nat} {Ty : TypeId} {f : Bool} {v : AV} {cs : List AV} (h : zbc p l = some (.mptr id sp off)) (hv : zbc x l = some v) (hc : v.cells? = some [v]) (hl : Am.look id hp = some (sp, .typed Ty f cs)) (hlt : off < cs.length) (ha : v.isCell = true) (go : Om P w0 N0 md pf ios (st n l (zb6 id (sp, .typed Ty f (cs.set off v)) hp) nx ck mk) k Q) (hx : Ops pf (st n l hp nx ck mk) (.store 1 p x) := by first | exact fun _ _ _ _ => rfl | exact sdOk rfl rfl) :
  Om P w0 N0 md pf (⟨none, .store 1 p x, none⟩ :: ios) (st n l hp nx ck mk) k Q := by
 refine o_op0 (v := .tup []) ?_ go hx
 have hl' : Am.look id (st n l hp nx ck mk).heap = some (sp, .typed Ty f cs) := hl
 simp only [iop, zax, h, hv, hc, AS.store, hl']
 rw [if_pos (show [v].length = 1 from rfl), if_pos ⟨trivial, by show off + 1 ≤ _; omega, by simp [ha]⟩, zmr hlt]
 rfl
theorem o_peq {d : Nat} {neg : Bool} {x y : Arg} {a b : AV} {r : Bool} (hx : zbc x l = some a) (hy : zbc y l = some b) (hr : (st n l hp nx ck mk).peq a b = some r) (go : Om P w0 N0 md pf ios (st n ((d, .bool (if neg then !r else r)) :: l) hp nx ck mk) k Q) : Om P w0 N0 md pf (⟨some d, .peq neg x y, none⟩ :: ios) (st n l hp nx ck mk) k Q :=
 zdx (by simp only [iop, zax, hx, hy, hr]) go
theorem o_uptr {d : Nat} {ok : List (TypeId × Nat)} {a : Arg} {id sp : Nat} {Ty : TypeId} {cs : List AV} (h : zbc a l = some (.mptr id sp 0)) (hl : Am.look id hp = some (sp, .typed Ty true cs)) (hok : ok.elem (Ty, cs.length) = true) (go : Om P w0 N0 md pf ios (st n ((d, .mptr id sp 0) :: l) hp nx ck mk) k Q) : Om P w0 N0 md pf (⟨some d, .uptr ok a, none⟩ :: ios) (st n l hp nx ck mk) k Q := by
 have hl' : Am.look id (st n l hp nx ck mk).heap = some (sp, .typed Ty true cs) := hl
 exact zdx (by simp only [iop, zax, h, hl']; rw [if_pos ⟨trivial, hok⟩]) go
theorem o_wapp {T U : List UInt8} {B xv : AV} {j d bytes : Nat} {s x : Arg} (hB : Bq T B j hp nx) (hj : j < nx) (hU : U ≠ []) (hlen : T.length + U.length ≤ 1048576) (hs : zbc s l = some B) (hx : zbc x l = some xv) (he : (st n l hp nx ck mk).bytesIn xv = some (e8s U)) (hb : bytes ≤ 16777216)
  (go : ∀ B' hp' nx' ck', Bq (T ++ U) B' j hp' nx' → Am.look j hp' = Am.look j hp → j < nx' → Om P w0 N0 md pf ios (st n ((d, B') :: l) hp' nx' ck' mk) k Q) :
  Om P w0 N0 md pf (⟨some d, .appendT 5 bytes s x, none⟩ :: ios) (st n l hp nx ck mk) k Q := by
 have hel : (e8s U).length = U.length := List.length_map ..
 have hul : ∀ V : List UInt8, (u8s V).length = V.length := fun V => List.length_map ..
 have hpos : 0 < U.length := List.length_pos_iff.2 hU
 have hcl : (e8s U).flatten.all AV.isCell = true := by rw [zhi]; exact zu8 U
 rcases hB with ⟨rfl, rfl⟩ | ⟨id, sp, rfl, hl, h1, h2⟩
 ·have hi : iop (st n l hp nx ck mk) (.appendT 5 bytes s x) = some (.ms nx ck 1 0 U.length none, st n l ((nx, ck, .typed 5 false (u8s U)) :: hp) (nx + 1) (ck + 1) mk) := by
   simp only [iop, zax, hs, hx, he]
   unfold appendT
   rw [if_neg (by omega), if_pos ⟨hcl, hb⟩]
   simp only []
   rw [if_pos (by simp at hlen; omega), zhi, hel]
   rfl
  exact zdx hi (go _ _ _ _ (.inr ⟨nx, ck, rfl, zb9, by omega, Nat.lt_succ_self _⟩) (by rw [zaj, if_neg (by omega)]) (by omega)) trivial
 ·have hl' : Am.look id (st n l hp nx ck mk).heap = some (sp, .typed 5 false (u8s T)) := hl
  have hi : iop (st n l hp nx ck mk) (.appendT 5 bytes s x) = some (.ms id ck 1 0 (T.length + U.length) none, st n l (zb6 id (ck, .typed 5 false (u8s (T ++ U))) hp) nx (ck + 1) mk) := by
   simp only [iop, zax, hs, hx, he]
   unfold appendT
   rw [if_neg (by omega), if_pos ⟨hcl, hb⟩]
   simp only [hl']
   rw [if_pos ⟨trivial, trivial, trivial, trivial, by rw [hul]; exact Nat.le_refl _, by omega⟩, zhi, hel, zhg, List.take_of_length_le (by rw [hul]; exact Nat.le_refl _)]
   unfold u8s
   rw [List.map_append]
   rfl
  exact zdx hi (go _ _ _ _ (.inr ⟨id, ck, by rw [List.length_append], by rw [za1, if_pos rfl], h1, h2⟩) (by rw [za1, if_neg h1]) hj) trivial
end
-- (*strings.Builder).copyCheck
def ic99 : IC := .seq (.region [⟨(some 2), .mov (.t 0), none⟩,
  ⟨(some 3), .nilchk (.t 2), none⟩,
  ⟨(some 4), .faddr 0 (.t 3), none⟩,
  ⟨(some 5), .load none (.t 4), none⟩,
  ⟨(some 6), .peq false (.t 5) (.c (.nilp)), none⟩] none)
 (.cond (.t 6) (.region [⟨(some 7), .mov (.t 0), none⟩,
  ⟨(some 8), .mov (.t 0), none⟩,
  ⟨(some 9), .uptr [(83, 2), (84, 3), (85, 3)] (.t 8), none⟩,
  ⟨(some 10), .mov (.t 9), none⟩,
  ⟨(some 11), .uptr [(83, 2), (84, 3), (85, 3)] (.t 10), none⟩,
  ⟨(some 12), .nilchk (.t 7), none⟩,
  ⟨(some 13), .faddr 0 (.t 12), none⟩,
  ⟨none, .store 1 (.t 13) (.t 11), none⟩] none)
 (.seq (.region [⟨(some 14), .mov (.t 0), none⟩,
  ⟨(some 15), .nilchk (.t 14), none⟩,
  ⟨(some 16), .faddr 0 (.t 15), none⟩,
  ⟨(some 17), .load none (.t 16), none⟩,
  ⟨(some 18), .mov (.t 0), none⟩,
  ⟨(some 19), .peq true (.t 17) (.t 18), none⟩] none)
 (.cond (.t 19) (.refuse)
 (.skip))))
theorem fn99 : env0.fn 99 = some ⟨20, ic99, []⟩ := by kernel_rfl
theorem zrq {w0 : World} {N0 : Nat} {T : List UInt8} {nm A B : AV} {j sj : Nat} {H : HS} (hW : Wq T nm j sj A B H.heap H.next) : FT Try.prog w0 N0 99 [.mptr j sj 0] H fun _ H' => Wq T nm j sj (.mptr j sj 0) B H'.heap H'.next := by
 refine zco env0_ok fn99 [(0, .mptr j sj 0)] (by show 1 ≤ 20; decide) rfl ?_
 obtain ⟨hp, nx, ck⟩ := H
 replace hW : Wq T nm j sj A B hp nx := hW
 show Zm _ _ _ _ _ (st 20 _ hp nx ck) _ _
 unfold ic99
 repeat (first | refine za7 ?_ | refine za0 rfl ?_ | refine za2 rfl ?_ | refine za8 rfl ?_ | refine zaq rfl ?_)
 refine zmg rfl hW.obj hW.jn rfl ?_
 rcases hW.adr with rfl | rfl
 ·refine o_peq (r := true) rfl rfl rfl ?_
  repeat (first | refine za0 rfl ?_ | refine za4 ?_ | refine za3 ?_ | refine zbe rfl ?_ | refine za2 rfl ?_)
  refine o_uptr rfl hW.obj rfl ?_
  repeat (first | refine za2 rfl ?_)
  refine o_uptr rfl hW.obj rfl ?_
  repeat (first | refine za8 rfl ?_ | refine zaq rfl ?_)
  refine o_stT (off := 0) rfl rfl rfl hW.obj (by show 0 < 3; decide) rfl ?_
  repeat (first | refine za4 ?_)
  exact zad ⟨.inl rfl, _, rfl, ⟨by show Am.look j (zb6 j _ hp) = _; rw [za1, if_pos rfl]; rfl, .inr rfl, hW.buf.put _, hW.jn⟩⟩
 ·refine o_peq (r := false) rfl rfl rfl ?_
  repeat (first | refine za7 ?_ | refine za0 rfl ?_ | refine za4 ?_ | refine za3 ?_ | refine zbi rfl ?_ | refine za2 rfl ?_ | refine za8 rfl ?_ | refine zaq rfl ?_)
  refine zmg rfl hW.obj hW.jn rfl ?_
  repeat (first | refine za2 rfl ?_)
  refine o_peq (r := true) rfl rfl (by
   show (if j = j ∧ sj = sj ∧ 0 = 0 then match Am.look j hp with
    | some (st2, .typed ..) => if st2 = sj then some true else none
    | _ => none else none) = _
   rw [if_pos ⟨rfl, rfl, rfl⟩, hW.obj]
   simp) ?_
  repeat (first | refine za4 ?_ | refine za3 ?_ | refine zab ?_ | refine zbi rfl ?_)
  exact zad ⟨.inl rfl, _, rfl, hW⟩
end Go.Proofs.Ytmnkjofaodbokaa
