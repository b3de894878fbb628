/-
  R10, R11, R12, R13, R14, R15, R16, R17 in one text.; THE EXAMPLES OF THE CHAPTER.; LISTS OF NUMBERS AS THE MACHINE HOLDS THEM; LISTS THAT ARE GONE THROUGH.; SMALL EXPRESSIONS.; LISTS OF SMALL EXPRESSIONS.; RIGHT EXPRESSIONS; HOW MANY NODES THEY HAVE AND HOW DEEP THEY ARE.; THE REFERENCE's DEPTH AND SIZE; WHETHER A VARIABLE OCCURS.; A LIST OF NUMBERS THAT GROWS; slices.Index, Contains, Equal.; THE 
-/
import Derived.Test.YtmnkjofaodbokaaDX2
import Derived.Shelf.Sort.Plain
import Derived.Shelf.Slices.CompactI
namespace Go.Proofs.Ytmnkjofaodbokaa
open Go Go.Am
mutual
def szX : Ex → Int
 | .nd _ _ args => 1 + szL args
def szL : List Ex → Int
 | [] => 0
 | y :: ys => szX y + szL ys
end
mutual
theorem zd6 : ∀ x : Ex, 1 ≤ szX x
 | .nd op ix args => by
  rw [szX]
  have := zbh args
  omega
theorem zbh : ∀ l : List Ex, 0 ≤ szL l
 | [] => by rw [szL]; exact Int.le_refl _
 | y :: ys => by
  rw [szL]
  have := zd6 y
  have := zbh ys
  omega
end
theorem zfu : ∀ l : List Ex, (l.length : Int) ≤ szL l
 | [] => by rw [szL]; exact Int.le_refl _
 | y :: ys => by
  rw [szL, List.length_cons]
  have := zd6 y
  have := zfu ys
  omega
mutual
theorem zsu : ∀ x : Ex, szX x ≤ 256 → Thin x
 | .nd op ix args => fun h => by
  rw [szX] at h
  have := zfu args
  exact .nd (by omega) (zod args (by omega))
theorem zod : ∀ l : List Ex, szL l ≤ 256 → ∀ y ∈ l, Thin y
 | [] => fun _ y hy => absurd hy List.not_mem_nil
 | x :: xs => fun h y hy => by
  rw [szL] at h
  have h1 := zd6 x
  have h2 := zbh xs
  rcases List.mem_cons.1 hy with he | hm
  ·rw [he]
   exact zsu x (by omega)
  ·exact zod xs (by omega) y hm
end
mutual
theorem zqg (most : Int) (h : 0 ≤ most) : ∀ x : Ex, cnt most x = if szX x ≤ most then szX x else most + 1
 | .nd op ix args => by
  rw [cnt, szX]
  exact zqe most h 1 (by omega) (by omega) args
theorem zqe (most : Int) (h : 0 ≤ most) (n : Int) (h1 : 1 ≤ n) (h2 : n ≤ most + 1) : ∀ l : List Ex, zlw most n l = if n + szL l ≤ most then n + szL l else most + 1
 | [] => by
  rw [zlw, szL]
  split <;> omega
 | y :: ys => by
  rw [zlw, szL]
  have hy := zd6 y
  have hys := zbh ys
  split
  ·have e := zqg (most - n) (by omega) y
   have b := zi8 (most - n) (by omega) y
   rw [zqe most h _ (by omega) (by omega) ys]
   split at e <;> rw [e] <;> (repeat' split) <;> omega
  ·rw [if_neg (by omega)]
   omega
end
theorem zec (m : Nat) (op ix : Int) (args : List Ex) : zc5 (m + 1) (.nd op ix args) = args.all (zc5 m) := by
 rw [zc5]
 split
 ·rename_i h
  subst h
  cases args with
  | nil => rfl
  | cons a l => simp [zc5]
 ·rfl
def zcw (x : Ex) : Bool := decide (cnt 256 x ≤ 256) && zc5 16 x
theorem zc9 (x : Ex) : zcw x = true ↔ szX x ≤ 256 ∧ zc5 16 x = true := by
 unfold zcw
 rw [Bool.and_eq_true, decide_eq_true_iff, zqg 256 (by omega)]
 constructor
 ·intro ⟨a, b⟩
  refine ⟨?_, b⟩
  split at a <;> omega
 ·intro ⟨a, b⟩
  exact ⟨by rw [if_pos a]; exact a, b⟩
mutual
theorem walkM : ∀ (x : Ex) (d n m : Int), 1 ≤ d → d ≤ 17 → 0 ≤ n → n ≤ 256 →
  if n + szX x ≤ 256 ∧ zc5 (17 - d).toNat x = true then ∃ m', zc7 zdz d x (n, m) = .inl (n + szX x, m') else zc7 zdz d x (n, m) = .inr ()
 | .nd op ix args => fun d n m hd h17 h0 hn => by
  rw [zc7, szX]
  unfold zdz
  have hs0 := zbh args
  by_cases hs : n + 1 > 256 ∨ d > 16
  ·rw [if_pos hs, if_neg]
   intro ⟨a, b⟩
   rcases hs with hs | hs
   ·omega
   ·rw [show (17 - d).toNat = 0 by omega] at b
    simp [zc5] at b
  ·rw [if_neg hs, show (17 - d).toNat = (16 - d).toNat + 1 by omega, zec, ← Int.add_assoc]
   exact walkLM args d (n + 1) (zj9 m d) hd (by omega) (by omega) (by omega)
theorem walkLM : ∀ (l : List Ex) (d n m : Int), 1 ≤ d → d ≤ 16 → 0 ≤ n → n ≤ 256 →
  if n + szL l ≤ 256 ∧ l.all (zc5 (16 - d).toNat) = true then ∃ m', zc3 zdz d l (n, m) = .inl (n + szL l, m') else zc3 zdz d l (n, m) = .inr ()
 | [] => fun d n m hd h16 h0 hn => by
  rw [szL, zc3, if_pos ⟨by omega, rfl⟩, Int.add_zero]
  exact ⟨m, rfl⟩
 | y :: ys => fun d n m hd h16 h0 hn => by
  have hy := walkM y (d + 1) n m (by omega) (by omega) h0 hn
  rw [zc3, if_pos h16, szL]
  rw [show (17 - (d + 1)).toNat = (16 - d).toNat by omega] at hy
  have hp := zd6 y
  have hq := zbh ys
  by_cases hc : n + szX y ≤ 256 ∧ zc5 (16 - d).toNat y = true
  ·rw [if_pos hc] at hy
   obtain ⟨m', hy⟩ := hy
   rw [hy, List.all_cons, hc.2, Bool.true_and, ← Int.add_assoc]
   exact walkLM ys d (n + szX y) m' hd h16 (by omega) hc.1
  ·rw [if_neg hc] at hy
   rw [hy, if_neg]
   intro ⟨a, b⟩
   rw [List.all_cons, Bool.and_eq_true] at b
   exact hc ⟨by omega, b.1⟩
end
mutual
theorem walkC (z : Int) : ∀ (x : Ex) (d : Int), 1 ≤ d → d ≤ 17 → zc5 (17 - d).toNat x = true → zc7 (zlg z) d x () = if nds z x = 0 then .inl () else .inr (nds z x)
 | .nd op ix args => fun d hd h17 hb => by
  have h16 : d ≤ 16 := by
   by_cases h : d ≤ 16
   ·exact h
   ·rw [show (17 - d).toNat = 0 by omega] at hb
    simp [zc5] at hb
  rw [show (17 - d).toNat = (16 - d).toNat + 1 by omega, zec] at hb
  rw [zc7, nds]
  unfold zlg zrv
  by_cases h : zaw op ix args.length z = 0
  ·simp only [if_pos h]
   exact walkLC z args d hd h16 hb
  ·simp only [if_neg h]
theorem walkLC (z : Int) : ∀ (l : List Ex) (d : Int), 1 ≤ d → d ≤ 16 → l.all (zc5 (16 - d).toNat) = true → zc3 (zlg z) d l () = if zpe z l = 0 then .inl () else .inr (zpe z l)
 | [] => fun d hd h16 hb => by rw [zc3, zpe, if_pos rfl]
 | y :: ys => fun d hd h16 hb => by
  rw [List.all_cons, Bool.and_eq_true] at hb
  have hy := walkC z y (d + 1) (by omega) (by omega) (by rw [show (17 - (d + 1)).toNat = (16 - d).toNat by omega]; exact hb.1)
  rw [zc3, if_pos h16, hy, zpe]
  by_cases h : nds z y = 0
  ·simp only [if_pos h]
   exact walkLC z ys d hd h16 hb.2
  ·simp only [if_neg h]
end
def zc8 (x : Ex) (n : Int) : Int := if n < 0 ∨ n > 256 then 2 else if zcw x = true then nds n x else 5
theorem zeb (x : Ex) (n : Int) : zgy x n = zc8 x n := by
 unfold zgy zc8
 split
 ·rfl
 ·have hw := walkM x 1 0 0 (by omega) (by omega) (by omega) (by omega)
  rw [Int.zero_add, show ((17 : Int) - 1).toNat = 16 from rfl] at hw
  by_cases hl : zcw x = true
  ·rw [if_pos ((zc9 x).1 hl)] at hw
   obtain ⟨m', hw⟩ := hw
   rw [hw, if_pos hl]
   dsimp only
   rw [walkC n x 1 (by omega) (by omega) ((zc9 x).1 hl).2]
   by_cases h : nds n x = 0
   ·rw [if_pos h]; exact h.symm
   ·rw [if_neg h]
  ·rw [if_neg (fun h => hl ((zc9 x).2 h))] at hw
   rw [hw, if_neg hl]
-- pneumatic/pneumaticref05.Light
def ic48 : IC := .seq (.region [⟨(some 1), .box (.t 0), none⟩,
  ⟨(some 2), .mov (.c (.bool false)), none⟩] none)
 (.seq (.region [⟨(some 3), .load (some 3) (.t 1), none⟩,
  ⟨(some 4), .call (.c (.fn 67 [] [])) [(.t 3), (.c (.int .i64 256))], none⟩,
  ⟨(some 5), .bin .leq (.t 4) (.c (.int .i64 256)), none⟩,
  ⟨(some 6), .mov (.t 5), none⟩,
  ⟨(some 7), .load (some 3) (.t 1), some (6, true)⟩,
  ⟨(some 8), .call (.c (.fn 78 [] [])) [(.t 7), (.c (.int .i64 16))], some (6, true)⟩,
  ⟨(some 9), .pick (.t 6) (.t 8) (.c (.bool false)), none⟩,
  ⟨(some 2), .mov (.t 9), none⟩] none)
 (.ret))
theorem fn48 : env0.fn 48 = some ⟨10, ic48, [.t 2]⟩ := by kernel_rfl
theorem zro (x : Ex) (hs : Slim x) : PF Try.prog 48 [.agg (cX x)] (.bool (zcw x)) := by
 have h72 := zlz _ x 256 (Nat.le_refl _) hs (by decide) (by decide)
 have h73 := deep73 16 x 16 rfl (by decide) hs
 have hl : zcw x = (decide (cnt 256 x ≤ 256) && zc5 16 x) := rfl
 rw [hl]
 obtain ⟨op, ix, args⟩ := x
 refine zb2 env0_ok fn48 [(0, .agg (cX (.nd op ix args)))] (by show 1 ≤ 10; decide) rfl fun w0 N0 => ?_
 unfold ic48
 repeat (first | refine za7 ?_ | refine za0 rfl ?_ | refine za4 ?_ | refine za5 ?_ | refine za3 rfl ?_ | refine zan rfl rfl rfl rfl ?_ | refine zcu rfl rfl ?_)
 refine zaq rfl rfl h72 (fun h => Bool.noConfusion (show false = true from h)) ?_
 refine zam rfl rfl rfl (fun h1 => ?_) fun h1 => ?_
 ·rw [h1, Bool.true_and]
  repeat (first | refine zcb rfl ?_ | refine za3 rfl ?_ | refine zan rfl rfl rfl rfl ?_)
  refine zaq rfl rfl h73 (fun h => Bool.noConfusion (show false = true from h)) ?_
  repeat (first | refine za4 ?_ | refine za5 ?_ | refine zae ?_ | refine za3 rfl ?_ | refine zah rfl rfl ?_)
  exact zac ⟨.inr rfl, _, rfl, rfl⟩
 ·rw [h1, Bool.false_and]
  repeat (first | refine za4 ?_ | refine za5 ?_ | refine zae ?_ | refine zeg rfl rfl ?_ | refine za3 rfl ?_ | refine zab rfl rfl ?_)
  exact zac ⟨.inr rfl, _, rfl, rfl⟩
-- pneumatic/pneumaticref05.Check
def ic33 : IC := .seq (.region [⟨(some 2), .box (.t 0), none⟩,
  ⟨(some 4), .mov (.c (.int .i64 0)), none⟩] none)
 (.seq (.seq (.region [⟨(some 5), .mov (.t 1), none⟩,
  ⟨(some 6), .bin .lss (.t 5) (.c (.int .i64 0)), none⟩,
  ⟨(some 7), .mov (.t 6), none⟩,
  ⟨(some 8), .mov (.t 1), some (7, false)⟩,
  ⟨(some 9), .bin .gtr (.t 8) (.c (.int .i64 256)), some (7, false)⟩,
  ⟨(some 10), .pick (.t 7) (.c (.bool true)) (.t 9), none⟩] none)
 (.cond (.t 10) (.seq (.region [⟨(some 4), .mov (.c (.int .i64 2)), none⟩] none)
 (.ret))
 (.skip)))
 (.seq (.seq (.region [⟨(some 11), .load (some 3) (.t 2), none⟩,
  ⟨(some 12), .call (.c (.fn 48 [] [])) [(.t 11)], none⟩,
  ⟨(some 13), .un .not (.t 12), none⟩] none)
 (.cond (.t 13) (.seq (.region [⟨(some 4), .mov (.c (.int .i64 5)), none⟩] none)
 (.ret))
 (.skip)))
 (.seq (.region [⟨(some 14), .load (some 3) (.t 2), none⟩,
  ⟨(some 15), .mov (.t 1), none⟩,
  ⟨(some 16), .call (.c (.fn 71 [] [])) [(.t 14), (.t 15)], none⟩,
  ⟨(some 4), .mov (.t 16), none⟩] none)
 (.ret))))
theorem fn33 : env0.fn 33 = some ⟨17, ic33, [.t 4]⟩ := by kernel_rfl
theorem zqc (x : Ex) (hs : Slim x) (n : Int) : PF Try.prog 33 [.agg (cX x), .int .i64 n] (.int .i64 (zc8 x n)) := by
 have h47 := zro x hs
 have h89 : zcw x = true → PF Try.prog 71 [.agg (cX x), .int .i64 n] (.int .i64 (nds n x)) := fun h => nodes89 n _ x (Nat.le_refl _) (zsu x ((zc9 x).1 h).1)
 obtain ⟨op, ix, args⟩ := x
 refine zb2 env0_ok fn33 [(0, .agg (cX (.nd op ix args))), (1, .int .i64 n)] (by show 2 ≤ 17; decide) rfl fun w0 N0 => ?_
 unfold ic33 zc8
 repeat (first | refine za7 ?_ | refine za0 rfl ?_ | refine za4 ?_ | refine za5 ?_ | refine za3 rfl ?_ | refine zcu rfl rfl ?_)
 refine zam rfl rfl rfl (fun h1 => ?_) fun h1 => ?_
 ·rw [if_pos (.inl (of_decide_eq_true h1))]
  repeat (first | refine za7 ?_ | refine za0 rfl ?_ | refine za4 ?_ | refine za5 ?_ | refine zbl rfl ?_ | refine zae ?_ | refine za8 ?_ | refine zeg rfl rfl ?_ | refine za3 rfl ?_ | refine zah rfl rfl ?_)
  exact zac ⟨.inr rfl, _, rfl, rfl⟩
 repeat (first | refine zcb rfl ?_ | refine za3 rfl ?_)
 refine zam rfl rfl rfl (fun h2 => ?_) fun h2 => ?_
 ·rw [if_pos (.inr (of_decide_eq_true h2))]
  repeat (first | refine za7 ?_ | refine za0 rfl ?_ | refine za4 ?_ | refine za5 ?_ | refine zbl rfl ?_ | refine zae ?_ | refine za8 ?_ | refine za3 rfl ?_ | refine zab rfl rfl ?_)
  exact zac ⟨.inr rfl, _, rfl, rfl⟩
 rw [if_neg (fun h => h.elim (of_decide_eq_false h1) (of_decide_eq_false h2))]
 repeat (first | refine za7 ?_ | refine za0 rfl ?_ | refine za4 ?_ | refine za5 ?_ | refine zaf ?_ | refine zc0 rfl ?_ | refine zan rfl rfl rfl rfl ?_ | refine zab rfl rfl ?_)
 cases hl : zcw (.nd op ix args) with
 | true =>
  rw [hl] at h47
  rw [if_pos rfl]
  refine zaq rfl rfl h47 (fun h => Bool.noConfusion (show false = true from h)) ?_
  repeat (first | refine za7 ?_ | refine za0 rfl ?_ | refine za4 ?_ | refine za5 ?_ | refine zaf ?_ | refine zc0 rfl ?_ | refine za3 rfl ?_ | refine zan rfl rfl rfl rfl ?_ | refine zi3 rfl rfl ?_)
  refine zaq rfl rfl (h89 hl) (fun h => Bool.noConfusion (show false = true from h)) ?_
  repeat (first | refine za4 ?_ | refine za5 ?_ | refine zae ?_ | refine za3 rfl ?_)
  exact zac ⟨.inr rfl, _, rfl, rfl⟩
 | false =>
  rw [hl] at h47
  rw [if_neg (by simp)]
  refine zaq rfl rfl h47 (fun h => Bool.noConfusion (show false = true from h)) ?_
  repeat (first | refine za7 ?_ | refine za0 rfl ?_ | refine za4 ?_ | refine za5 ?_ | refine zbl rfl ?_ | refine zae ?_ | refine za8 ?_ | refine za3 rfl ?_ | refine zi3 rfl rfl ?_)
  exact zac ⟨.inr rfl, _, rfl, rfl⟩
end Go.Proofs.Ytmnkjofaodbokaa
namespace Go.Proofs.Ytmnkjofaodbokaa
open Go Go.Am
theorem znu {n op ix : Int} {args : List Ex} (h : nds n (.nd op ix args) = 0) : zaw op ix args.length n = 0 ∧ ∀ y ∈ args, nds n y = 0 := by
 rw [nds] at h
 split at h
 ·rename_i h1
  refine ⟨h1, ?_⟩
  clear h1
  induction args with
  | nil => exact fun _ hy => absurd hy List.not_mem_nil
  | cons y ys ih =>
   rw [zpe] at h
   split at h
   ·rename_i h2
    intro z hz
    rcases List.mem_cons.1 hz with rfl | hm
    ·exact h2
    ·exact ih h z hm
   ·rename_i h2; exact absurd h h2
 ·rename_i h1; exact absurd h h1
theorem znw {op ix k n : Int} (h : zaw op ix k n = 0) : 0 ≤ op ∧ op < 5 ∧ zap op ≤ k ∧ k ≤ zb6 op ∧ 0 ≤ ix ∧ ix ≤ zb7 op n := by
 unfold zaw at h
 split at h
 ·exact absurd h (by decide)
 ·split at h
  ·exact absurd h (by decide)
  ·split at h
   ·exact absurd h (by decide)
   ·omega
end Go.Proofs.Ytmnkjofaodbokaa
namespace Go.Proofs.Ytmnkjofaodbokaa
open Go Go.Am
section
variable {σ τ : Type} {step : σ → Bool → σ ⊕ τ} {M : Nat → Prop} {I : σ → HS → Prop} {J : τ → HS → Prop}
end
noncomputable def ca119 : Code := match env0.fn 119 with
 | some i => ((zbq i.ic).headD (.skip, .skip)).1
 | none => .skip
noncomputable def cb119 : Code := match env0.fn 119 with
 | some i => ((zbq i.ic).headD (.skip, .skip)).2
 | none => .skip
structure I115 (ltm : List (Nat × AV)) (_ : Unit) (H : HS) : Prop where
 nx : 3 ≤ H.next
 h2 : Am.look 2 H.heap = some (2, .loop .ready none 10 (zdi ltm) [6] ca119 cb119 (1, 1))
 h1 : Am.look 1 H.heap = some (1, .deferred)
 h0 : Am.look 0 H.heap = some (0, .cells [.bool false])
structure J115 (_ : Unit) (H : HS) : Prop where
 nx : 3 ≤ H.next
 h2 : ∃ tm, Am.look 2 H.heap = some (2, .loop .done (some .ret) 10 tm [6] ca119 cb119 (1, 1))
 h1 : Am.look 1 H.heap = some (1, .deferred)
 h0 : Am.look 0 H.heap = some (0, .cells [.bool false])
end Go.Proofs.Ytmnkjofaodbokaa
namespace Go.Proofs.Ytmnkjofaodbokaa
open Go Go.Am
theorem nds_of {x : Ex} {n : Int} (h : zc8 x n = 0) : nds n x = 0 := by
 unfold zc8 at h
 split at h
 ·exact absurd h (by decide)
 ·split at h
  ·exact h
  ·exact absurd h (by decide)
end Go.Proofs.Ytmnkjofaodbokaa
namespace Go.Proofs.Ytmnkjofaodbokaa
open Go Go.Am
end Go.Proofs.Ytmnkjofaodbokaa
namespace Go.Proofs.Ytmnkjofaodbokaa
open Go Go.Am
def wkV (i : Int) : Ex := .nd 1 i []
def wkA : Ex := .nd 3 0 [wkV 0, .nd 2 0 [.nd 4 0 [wkV 1, wkV 2]]]
def wkB : Ex := .nd 3 0 [wkV 0, .nd 3 0 [wkV 1, .nd 0 1 []], wkV 0]
def wkC : Ex := .nd 3 0 [wkV 0, wkV 1]
def wkD : Ex := .nd 4 0 [wkV 0, .nd 2 0 [wkV 0]]
theorem zep (i : Int) : Slim (wkV i) := .nd (by decide) (fun _ h => by cases h)
theorem slimA : Slim wkA := .nd (by decide) fun y hy => by
 simp only [List.mem_cons, List.not_mem_nil, or_false] at hy
 rcases hy with rfl | rfl
 ·exact zep 0
 ·refine .nd (by decide) fun y hy => ?_
  obtain rfl := List.mem_singleton.1 hy
  refine .nd (by decide) fun y hy => ?_
  simp only [List.mem_cons, List.not_mem_nil, or_false] at hy
  rcases hy with rfl | rfl
  ·exact zep 1
  ·exact zep 2
theorem slimB' : Slim wkB := .nd (by decide) fun y hy => by
 simp only [List.mem_cons, List.not_mem_nil, or_false] at hy
 rcases hy with rfl | rfl | rfl
 ·exact zep 0
 ·refine .nd (by decide) fun y hy => ?_
  simp only [List.mem_cons, List.not_mem_nil, or_false] at hy
  rcases hy with rfl | rfl
  ·exact zep 1
  ·exact .nd (by decide) (fun _ h => by cases h)
 ·exact zep 0
theorem slimC : Slim wkC := .nd (by decide) fun y hy => by
 simp only [List.mem_cons, List.not_mem_nil, or_false] at hy
 rcases hy with rfl | rfl
 ·exact zep 0
 ·exact zep 1
theorem slimD : Slim wkD := .nd (by decide) fun y hy => by
 simp only [List.mem_cons, List.not_mem_nil, or_false] at hy
 rcases hy with rfl | rfl
 ·exact zep 0
 ·refine .nd (by decide) fun y hy => ?_
  obtain rfl := List.mem_singleton.1 hy
  exact zep 0
def tabC : Tab := [(32, [
 ([.agg [.int .i64 3, .int .i64 0, .vs [[.int .i64 1, .int .i64 0, .vs []], [.int .i64 2, .int .i64 0, .vs [[.int .i64 4, .int .i64 0, .vs [[.int .i64 1, .int .i64 1, .vs []], [.int .i64 1, .int .i64 2, .vs []]]]]]]], .int .i64 3], .int .i64 0),
 ([.agg [.int .i64 3, .int .i64 0, .vs [[.int .i64 1, .int .i64 0, .vs []], [.int .i64 3, .int .i64 0, .vs [[.int .i64 1, .int .i64 1, .vs []], [.int .i64 0, .int .i64 1, .vs []]]], [.int .i64 1, .int .i64 0, .vs []]]], .int .i64 3], .int .i64 0),
 ([.agg [.int .i64 3, .int .i64 0, .vs [[.int .i64 1, .int .i64 0, .vs []], [.int .i64 1, .int .i64 1, .vs []]]], .int .i64 3], .int .i64 0),
 ([.agg [.int .i64 4, .int .i64 0, .vs [[.int .i64 1, .int .i64 0, .vs []], [.int .i64 2, .int .i64 0, .vs [[.int .i64 1, .int .i64 0, .vs []]]]]], .int .i64 3], .int .i64 0)])]
theorem tabC_ok : TabOk Try.prog tabC := by
 intro x hx y hy
 unfold tabC at hx
 obtain rfl := List.mem_singleton.1 hx
 simp only [List.mem_cons, List.not_mem_nil, or_false] at hy
 have key : ∀ e : Ex, Slim e → zgy e 3 = 0 → PF Try.prog 32 [.agg (cX e), .int .i64 3] (.int .i64 0) := fun e hs h => by
  have := zlv e hs 3
  rwa [h] at this
 rcases hy with rfl | rfl | rfl | rfl
 ·exact key wkA slimA (by rw [zeb]; kernel_rfl)
 ·exact key wkB slimB' (by rw [zeb]; kernel_rfl)
 ·exact key wkC slimC (by rw [zeb]; kernel_rfl)
 ·exact key wkD slimD (by rw [zeb]; kernel_rfl)
def tabA : Tab := [
 (13, [
  ([], .bool true)])]
theorem tabA_ok : TabOk Try.prog tabA := TabOk.of_run (env0_ok.tab tabC_ok (pure := [])) (n := 80) (by kernel_rfl)
theorem zq0 : PF Try.prog 13 [] (.bool true) := tabA_ok _ (List.mem_cons_self ..) _ (List.mem_cons_self ..)
end Go.Proofs.Ytmnkjofaodbokaa
namespace Go.Proofs.Ytmnkjofaodbokaa
open Go Go.Am
def vsI (l : List Int) : AV := .vs (l.map fun z => [.int .i64 z])
theorem vsI_get {D : List Int} {k : Nat} (hk : k < D.length) : (D.map fun z => ([.int .i64 z] : List AV))[((k : Nat) : Int).toNat]? = some [.int .i64 D[k]] := by
 rw [Int.toNat_natCast, List.getElem?_map, List.getElem?_eq_getElem hk]
 rfl
theorem zic : ∀ l : List Int, hasM.hasML (l.map (AV.int .i64)) = false
 | [] => rfl
 | b :: l => by
  have := zic l
  simpa [hasM.hasML, hasM] using this
theorem zqz (l : List Int) : (l.map (AV.int .i64)) = (l.map fun z => ([.int .i64 z] : List AV)).flatten := by
 induction l with
 | nil => rfl
 | cons z l ih => simpa using ih
theorem zlk {S : AS} {d id sp len : Nat} {cap : Option Nat} {J : List AV} (a : List Int) (hn : a.length = len) (hl : Am.look id S.heap = some (sp, .cells (a.map (AV.int .i64) ++ J))) : S.view (d + 1) (.ms id sp 1 0 len cap) = vsI a := by
 subst hn
 have e : S.elems 1 (.ms id sp 1 0 a.length cap) = some (a.map fun z => ([.int .i64 z] : List AV)) := by
  obtain ⟨n, t, hp, nx, ck, mk⟩ := S
  exact zjb (ys := J) (cap := cap) (n := n) (nx := nx) (ck := ck) (mk := mk) (l := []) (hp := hp) (by rw [← zqz]; exact hl) (List.length_map ..) (fun x hx => by obtain ⟨s, _, rfl⟩ := List.mem_map.1 hx; rfl)
 simp only [AS.view, e]
 unfold vsI
 congr 1
 rw [List.map_map]
 apply List.map_congr_left
 intro s _
 cases d <;> rfl
theorem zsy {S : AS} {d id sp len : Nat} {cap : Option Nat} (a : List Int) (hn : a.length = len) (hl : Am.look id S.heap = some (sp, .cells (a.map (AV.int .i64)))) : S.view (d + 1) (.ms id sp 1 0 len cap) = vsI a :=
 zlk (J := []) a hn (by rw [List.append_nil]; exact hl)
theorem Keep.mono {M M' : Nat → Prop} {H H' : HS} (h : Keep M H H') (hm : ∀ i, M i → M' i) : Keep M' H H' :=
 ⟨h.next, h.clk, fun i hi => h.look i fun h => hi (hm i h)⟩
theorem pair_eq {a b c d : AV} (h1 : a = c) (h2 : b = d) : [a, b] = [c, d] := by rw [h1, h2]
end Go.Proofs.Ytmnkjofaodbokaa
namespace Go.Proofs.Ytmnkjofaodbokaa
open Go Go.Am
-- pneumatic/pneumaticref05.Few
def ic52 : IC := .seq (.region [⟨(some 1), .box (.t 0), none⟩,
  ⟨(some 2), .mov (.c (.bool false)), none⟩] none)
 (.seq (.region [⟨(some 4), .load (some 3) (.t 1), none⟩,
  ⟨(some 5), .call (.c (.fn 67 [] [])) [(.t 4), (.c (.int .i64 512))], none⟩,
  ⟨(some 3), .mov (.t 5), none⟩] none)
 (.seq (.region [⟨(some 6), .mov (.t 3), none⟩,
  ⟨(some 7), .bin .leq (.t 6) (.c (.int .i64 40)), none⟩,
  ⟨(some 8), .mov (.t 7), none⟩,
  ⟨(some 9), .mov (.t 3), some (8, false)⟩,
  ⟨(some 10), .bin .gtr (.t 9) (.c (.int .i64 256)), some (8, false)⟩,
  ⟨(some 11), .mov (.t 10), some (8, false)⟩,
  ⟨(some 12), .mov (.t 3), some (11, true)⟩,
  ⟨(some 13), .bin .leq (.t 12) (.c (.int .i64 512)), some (11, true)⟩,
  ⟨(some 14), .pick (.t 11) (.t 13) (.c (.bool false)), some (8, false)⟩,
  ⟨(some 15), .mov (.t 14), some (8, false)⟩,
  ⟨(some 16), .load (some 3) (.t 1), some (15, true)⟩,
  ⟨(some 17), .call (.c (.fn 78 [] [])) [(.t 16), (.c (.int .i64 40))], some (15, true)⟩,
  ⟨(some 18), .pick (.t 15) (.t 17) (.c (.bool false)), some (8, false)⟩,
  ⟨(some 19), .pick (.t 8) (.c (.bool true)) (.t 18), none⟩,
  ⟨(some 2), .mov (.t 19), none⟩] none)
 (.ret)))
theorem fn52 : env0.fn 52 = some ⟨20, ic52, [.t 2]⟩ := by kernel_rfl
-- pneumatic/pneumaticlaw05.few$1
def ic51 : IC := .seq (.region [⟨(some 1), .box (.t 0), none⟩,
  ⟨(some 2), .mov (.c (.bool false)), none⟩] none)
 (.seq (.region [⟨(some 3), .load (some 3) (.t 1), none⟩,
  ⟨(some 4), .call (.c (.fn 52 [] [])) [(.t 3)], none⟩,
  ⟨(some 5), .un .not (.t 4), none⟩,
  ⟨(some 2), .mov (.t 5), none⟩] none)
 (.ret))
theorem fn51 : env0.fn 51 = some ⟨6, ic51, [.t 2]⟩ := by kernel_rfl
def b79_0 : IC := .seq (.region [⟨(some 9), .bin .lss (.t 8) (.t 7), none⟩] none)
 (.seq (.cond (.t 9) (.skip)
 (.exit 0))
 (.seq (.block 1 (.seq (.region [⟨(some 10), .mov (.t 8), none⟩,
  ⟨(some 5), .mov (.t 10), none⟩] none)
 (.seq (.region [⟨(some 11), .mov (.t 1), none⟩,
  ⟨(some 12), .mov (.t 0), none⟩,
  ⟨(some 13), .mov (.t 5), none⟩,
  ⟨(some 14), .idxs 3 (.t 12) (.t 13), none⟩,
  ⟨(some 15), .load (some 3) (.t 14), none⟩,
  ⟨(some 16), .call (.t 11) [(.t 15)], none⟩] none)
 (.cond (.t 16) (.seq (.region [⟨(some 17), .mov (.t 5), none⟩,
  ⟨(some 4), .mov (.t 17), none⟩] none)
 (.ret))
 (.skip)))))
 (.region [⟨(some 18), .bin .add (.t 8) (.c (.int .i64 1)), none⟩,
  ⟨(some 8), .mov (.t 18), none⟩] none)))
-- slices.IndexFunc[[]pneumatic/api.Expr,pneumatic/api.Expr]
def ic79 : IC := .seq (.region [⟨(some 4), .mov (.c (.int .i64 0)), none⟩] none)
 (.seq (.seq (.region [⟨(some 6), .mov (.t 0), none⟩,
  ⟨(some 7), .len false (.t 6), none⟩,
  ⟨(some 8), .mov (.c (.int .i64 0)), none⟩] none)
 (.block 0 (.loop b79_0)))
 (.seq (.region [⟨(some 4), .mov (.c (.int .i64 (-1))), none⟩] none)
 (.ret)))
theorem fn79 : env0.fn 79 = some ⟨19, ic79, [.t 4]⟩ := by kernel_rfl
-- slices.ContainsFunc[[]pneumatic/api.Expr,pneumatic/api.Expr]
def ic50 : IC := .seq (.region [⟨(some 4), .mov (.c (.bool false)), none⟩] none)
 (.seq (.region [⟨(some 5), .mov (.t 0), none⟩,
  ⟨(some 6), .mov (.t 1), none⟩,
  ⟨(some 7), .call (.c (.fn 79 [] [])) [(.t 5), (.t 6)], none⟩,
  ⟨(some 8), .bin .geq (.t 7) (.c (.int .i64 0)), none⟩,
  ⟨(some 4), .mov (.t 8), none⟩] none)
 (.ret))
theorem fn50 : env0.fn 50 = some ⟨9, ic50, [.t 4]⟩ := by kernel_rfl
-- pneumatic/pneumaticlaw05.few
def ic17 : IC := .seq (.region [⟨(some 2), .mov (.c (.bool false)), none⟩] none)
 (.seq (.region [⟨(some 3), .mov (.t 0), none⟩,
  ⟨(some 4), .call (.c (.fn 50 [] [])) [(.t 3), (.c (.fn 51 [] []))], none⟩,
  ⟨(some 5), .un .not (.t 4), none⟩,
  ⟨(some 2), .mov (.t 5), none⟩] none)
 (.ret))
theorem fn17 : env0.fn 17 = some ⟨6, ic17, [.t 2]⟩ := by kernel_rfl
def zlo (x : Ex) : Bool := decide (cnt 512 x ≤ 40) || (decide (cnt 512 x > 256) && (decide (cnt 512 x ≤ 512) && zc5 40 x))
theorem few52 (x : Ex) (hs : Slim x) : PF Try.prog 52 [.agg (cX x)] (.bool (zlo x)) := by
 have p67 := zlz _ x 512 (Nat.le_refl _) hs (by omega) (by omega)
 have p78 := deep73 40 x 40 rfl (by omega) hs
 unfold zlo
 generalize cnt 512 x = c at *
 generalize zc5 40 x = dd at *
 obtain ⟨op, ix, args⟩ := x
 refine zb2 env0_ok fn52 [(0, .agg (cX (.nd op ix args)))] (by show 1 ≤ 20; decide) rfl fun w0 N0 => ?_
 unfold ic52
 refine za7 (za0 rfl (zcu rfl rfl (za3 rfl (za4 (za5 ?_)))))
 refine zdy [] [(0, 0, cX (.nd op ix args))] [(1, .vptr (cX (.nd op ix args)))] rfl (.cons rfl rfl .nil) .nil (.cons rfl (.fptr rfl rfl) .nil) ?_
 repeat (first | refine za7 ?_ | refine za0 rfl ?_ | refine zan rfl rfl rfl rfl ?_)
 refine zaq rfl rfl p67 (fun h => Bool.noConfusion (show false = true from h)) ?_
 repeat (first | refine za7 ?_ | refine za0 rfl ?_ | refine za4 ?_ | refine za5 ?_ | refine za3 rfl ?_)
 refine zam rfl rfl rfl (fun h1 => ?_) fun h1 => ?_
 ·repeat (first | refine za4 ?_ | refine za5 ?_ | refine zae ?_ | refine zeg rfl rfl ?_ | refine o_gt rfl ?_ | refine za3 rfl ?_ | refine zah rfl rfl ?_)
  exact zac ⟨.inr rfl, _, rfl, by rw [h1]; rfl⟩
 ·rw [h1]
  repeat (first | refine zcb rfl ?_ | refine za3 rfl ?_)
  refine zam rfl rfl rfl (fun h2 => ?_) fun h2 => ?_
  ·rw [h2]
   repeat (first | refine zcb rfl ?_ | refine za3 rfl ?_)
   refine zam rfl rfl rfl (fun h3 => ?_) fun h3 => ?_
   ·rw [h3]
    repeat (first | refine zcb rfl ?_ | refine za3 rfl ?_ | refine zan rfl rfl rfl rfl ?_ | refine zah rfl rfl ?_)
    refine zaq rfl rfl p78 (fun h => Bool.noConfusion (show false = true from h)) ?_
    repeat (first | refine za4 ?_ | refine za5 ?_ | refine zae ?_ | refine zcb rfl ?_ | refine za3 rfl ?_ | refine zah rfl rfl ?_ | refine zab rfl rfl ?_)
    exact zac ⟨.inr rfl, _, rfl, rfl⟩
   ·rw [h3]
    repeat (first | refine za4 ?_ | refine za5 ?_ | refine zae ?_ | refine zcb rfl ?_ | refine zeg rfl rfl ?_ | refine za3 rfl ?_ | refine zah rfl rfl ?_ | refine zab rfl rfl ?_)
    exact zac ⟨.inr rfl, _, rfl, rfl⟩
  ·rw [h2]
   repeat (first | refine za4 ?_ | refine za5 ?_ | refine zae ?_ | refine zcb rfl ?_ | refine zeg rfl rfl ?_ | refine za3 rfl ?_ | refine zab rfl rfl ?_)
   exact zac ⟨.inr rfl, _, rfl, rfl⟩
theorem few51 (x : Ex) (hs : Slim x) : PF Try.prog 51 [.agg (cX x)] (.bool (!zlo x)) := by
 have p52 := few52 x hs
 generalize zlo x = c at *
 obtain ⟨op, ix, args⟩ := x
 refine zb2 env0_ok fn51 [(0, .agg (cX (.nd op ix args)))] (by show 1 ≤ 6; decide) rfl fun w0 N0 => ?_
 unfold ic51
 refine za7 (za0 rfl (zcu rfl rfl (za3 rfl (za4 (za5 ?_)))))
 refine zdy [] [(0, 0, cX (.nd op ix args))] [(1, .vptr (cX (.nd op ix args)))] rfl (.cons rfl rfl .nil) .nil (.cons rfl (.fptr rfl rfl) .nil) ?_
 repeat (first | refine za7 ?_ | refine za0 rfl ?_ | refine zan rfl rfl rfl rfl ?_)
 refine zaq rfl rfl p52 (fun h => Bool.noConfusion (show false = true from h)) ?_
 repeat (first | refine za4 ?_ | refine za5 ?_ | refine zae ?_ | refine za3 rfl ?_ | refine zi3 rfl rfl ?_)
 exact zac ⟨.inr rfl, _, rfl, rfl⟩
end Go.Proofs.Ytmnkjofaodbokaa
namespace Go.Proofs.Ytmnkjofaodbokaa
open Go Go.Am
def fiX (p : Ex → Bool) (i : Nat) : List Ex → Int
 | [] => -1
 | x :: l => if p x = true then (i : Nat) else fiX p (i + 1) l
theorem fiX_step (p : Ex → Bool) {l : List Ex} {i : Nat} (h : i < l.length) : fiX p i (l.drop i) = if p l[i] = true then ((i : Nat) : Int) else fiX p (i + 1) (l.drop (i + 1)) := by
 rw [List.drop_eq_getElem_cons h]; rfl
theorem zqu (p : Ex → Bool) : ∀ (l : List Ex) (i : Nat), decide (fiX p i l ≥ 0) = l.any p
 | [], i => rfl
 | x :: l, i => by
  rw [List.any_cons]
  unfold fiX
  cases h : p x with
  | true => rw [if_pos rfl, Bool.true_or, decide_eq_true (by omega)]
  | false => rw [if_neg Bool.false_ne_true, Bool.false_or, zqu p l (i + 1)]
theorem index79 (l : List Ex) (hl : l.length < 9223372036854775807) (hs : ∀ x ∈ l, Slim x) : PF Try.prog 79 [.vs (cXs l), .fn 51 [] []] (.int .i64 (fiX (fun x => !zlo x) 0 l)) := by
 have hcl := zao l
 refine zb2 env0_ok fn79 [(0, .vs (cXs l)), (1, .fn 51 [] [])] (by show 2 ≤ 19; decide) rfl fun w0 N0 => ?_
 unfold ic79
 repeat (first | refine za7 ?_ | refine za0 rfl ?_ | refine za4 ?_ | refine za5 ?_ | refine zat ?_ | refine za3 rfl ?_ | refine zcz rfl rfl ?_)
 refine zeq (fun mm S => ∃ i, mm = l.length - i ∧ i ≤ l.length ∧ fiX (fun x => !zlo x) i (l.drop i) = fiX (fun x => !zlo x) 0 l ∧ S = st 19 [(0, .vs (cXs l)), (1, .fn 51 [] []), (7, .int .i64 (cXs l).length), (8, .int .i64 (i : Nat))] [] 0 0) l.length
  (zaz (.cons rfl (.cons rfl (.cons rfl (.cons rfl .nil))))) ⟨0, rfl, Nat.zero_le _, rfl, rfl⟩ ?_
 rintro mm S ⟨i, rfl, hi, hv, rfl⟩
 unfold b79_0
 repeat (first | refine za7 ?_ | refine za0 rfl ?_)
 refine zam rfl rfl rfl (fun h3 => ?_) fun h3 => ?_
 ·have hlt : i < l.length := by
   have h4 : ((i : Nat) : Int) < (((cXs l).length : Nat) : Int) := of_decide_eq_true h3
   omega
  have w1 : IntKind.wrap .i64 (((i : Nat) : Int) + 1) = ((i + 1 : Nat) : Int) := zbj i (by omega)
  have hg := ze2 hlt
  have hst := fiX_step (fun x => !zlo x) hlt
  have p51 := few51 l[i] (hs _ (List.getElem_mem hlt))
  generalize l[i] = a at *
  generalize zlo a = fa at *
  obtain ⟨op, ix, args⟩ := a
  repeat (first | refine za7 ?_ | refine za0 rfl ?_ | refine za4 ?_ | refine za5 ?_ | refine zat ?_ | refine zaf ?_ | refine zbl rfl ?_ | refine za3 rfl ?_ | refine zan rfl rfl rfl rfl ?_ | refine zff rfl rfl (by omega) (by assumption) rfl ?_)
  refine o_callv rfl rfl rfl p51 (fun h => Bool.noConfusion (show false = true from h)) ?_
  cases fa with
  | false =>
   rw [Bool.not_false, if_pos rfl, hv] at hst
   repeat (first | refine za7 ?_ | refine za0 rfl ?_ | refine za4 ?_ | refine za5 ?_ | refine zbl rfl ?_ | refine zae ?_ | refine za8 ?_ | refine zb5 ?_ | refine za3 rfl ?_)
   exact zac ⟨.inr rfl, _, rfl, by rw [hst]; rfl⟩
  | true =>
   rw [Bool.not_true, if_neg Bool.false_ne_true, hv] at hst
   repeat (first | refine za0 rfl ?_ | refine za4 ?_ | refine za5 ?_ | refine zcv ?_ | refine zaf ?_ | refine zc0 rfl ?_ | refine za3 rfl ?_ | refine zdm (op := .add) rfl rfl rfl ?_)
   rw [w1]
   exact zck (show l.length - (i + 1) < l.length - i by omega) (zaz (.cons rfl (.cons rfl (.cons rfl (.cons rfl .nil))))) ⟨i + 1, rfl, hlt, hst.symm, rfl⟩
 ·have hie : i = l.length := by
   have h4 : ¬ ((i : Nat) : Int) < (((cXs l).length : Nat) : Int) := of_decide_eq_false h3
   omega
  rw [hie, List.drop_length] at hv
  repeat (first | refine za7 ?_ | refine za4 ?_ | refine za5 ?_ | refine zc0 rfl ?_ | refine zea ?_ | refine zbi ?_)
  refine zhz ?_
  repeat (first | refine za7 ?_ | refine za0 rfl ?_ | refine za4 ?_ | refine za5 ?_ | refine zae ?_ | refine ze9 ?_ | refine za3 rfl ?_)
  exact zac ⟨.inr rfl, _, rfl, by rw [← hv]; rfl⟩
theorem zor (l : List Ex) (hl : l.length < 9223372036854775807) (hs : ∀ x ∈ l, Slim x) : PF Try.prog 50 [.vs (cXs l), .fn 51 [] []] (.bool (l.any fun x => !zlo x)) := by
 have p79 := index79 l hl hs
 rw [← zqu _ l 0]
 generalize fiX (fun x => !zlo x) 0 l = z at *
 refine zb2 env0_ok fn50 [(0, .vs (cXs l)), (1, .fn 51 [] [])] (by show 2 ≤ 9; decide) rfl fun w0 N0 => ?_
 unfold ic50
 repeat (first | refine za7 ?_ | refine za0 rfl ?_ | refine za4 ?_ | refine za5 ?_ | refine za3 rfl ?_)
 refine zaq rfl rfl p79 (fun h => Bool.noConfusion (show false = true from h)) ?_
 refine zam rfl rfl rfl (fun h => ?_) fun h => ?_
 ·repeat (first | refine za4 ?_ | refine za5 ?_ | refine zae ?_ | refine za3 rfl ?_)
  exact zac ⟨.inr rfl, _, rfl, by rw [h]; rfl⟩
 ·repeat (first | refine za4 ?_ | refine za5 ?_ | refine zae ?_ | refine za3 rfl ?_)
  exact zac ⟨.inr rfl, _, rfl, by rw [h]; rfl⟩
theorem few17 (l : List Ex) (hl : l.length < 9223372036854775807) (hs : ∀ x ∈ l, Slim x) : PF Try.prog 17 [.vs (cXs l)] (.bool (l.all zlo)) := by
 have p50 := zor l hl hs
 have e : l.all zlo = !(l.any fun x => !zlo x) := by
  rw [List.not_any_eq_all_not]
  simp only [Bool.not_not]
 rw [e]
 generalize (l.any fun x => !zlo x) = z at *
 refine zb2 env0_ok fn17 [(0, .vs (cXs l))] (by show 1 ≤ 6; decide) rfl fun w0 N0 => ?_
 unfold ic17
 repeat (first | refine za7 ?_ | refine za0 rfl ?_ | refine za4 ?_ | refine za5 ?_ | refine za3 rfl ?_)
 refine zaq rfl rfl p50 (fun h => Bool.noConfusion (show false = true from h)) ?_
 repeat (first | refine za4 ?_ | refine za5 ?_ | refine zae ?_ | refine za3 rfl ?_ | refine zi3 rfl rfl ?_)
 exact zac ⟨.inr rfl, _, rfl, rfl⟩
end Go.Proofs.Ytmnkjofaodbokaa
namespace Go.Proofs.Ytmnkjofaodbokaa
open Go Go.Am
def b68_0 : IC := .seq (.seq (.region [⟨(some 5), .mov (.t 4), none⟩,
  ⟨(some 6), .faddr 2 (.t 1), none⟩,
  ⟨(some 7), .load none (.t 6), none⟩,
  ⟨(some 8), .len false (.t 7), none⟩,
  ⟨(some 9), .bin .lss (.t 5) (.t 8), none⟩] none)
 (.cond (.t 9) (.skip)
 (.exit 0)))
 (.seq (.block 1 (.region [⟨(some 12), .mov (.t 3), none⟩,
  ⟨(some 13), .faddr 2 (.t 1), none⟩,
  ⟨(some 14), .load none (.t 13), none⟩,
  ⟨(some 15), .mov (.t 4), none⟩,
  ⟨(some 16), .idxs 3 (.t 14) (.t 15), none⟩,
  ⟨(some 17), .load (some 3) (.t 16), none⟩,
  ⟨(some 18), .call (.c (.fn 68 [] [])) [(.t 17)], none⟩,
  ⟨(some 19), .minmax true [(.t 12), (.t 18)], none⟩,
  ⟨(some 3), .mov (.t 19), none⟩] none))
 (.region [⟨(some 10), .mov (.t 4), none⟩,
  ⟨(some 11), .bin .add (.t 10) (.c (.int .i64 1)), none⟩,
  ⟨(some 4), .mov (.t 11), none⟩] none))
-- pneumatic/pneumaticref05.Depth
def ic68 : IC := .seq (.region [⟨(some 1), .box (.t 0), none⟩,
  ⟨(some 2), .mov (.c (.int .i64 0)), none⟩] none)
 (.seq (.region [⟨(some 3), .mov (.c (.int .i64 0)), none⟩] none)
 (.seq (.seq (.region [⟨(some 4), .mov (.c (.int .i64 0)), none⟩] none)
 (.block 0 (.loop b68_0)))
 (.seq (.region [⟨(some 20), .mov (.t 3), none⟩,
  ⟨(some 21), .bin .add (.t 20) (.c (.int .i64 1)), none⟩,
  ⟨(some 2), .mov (.t 21), none⟩] none)
 (.ret))))
theorem fn68 : env0.fn 68 = some ⟨22, ic68, [.t 2]⟩ := by kernel_rfl
-- pneumatic/boolexp.Size
def ic27 : IC := .seq (.region [⟨(some 1), .box (.t 0), none⟩,
  ⟨(some 2), .mov (.c (.int .i64 0)), none⟩,
  ⟨(some 3), .mov (.c (.int .i64 0)), none⟩,
  ⟨(some 4), .mov (.c (.int .i64 0)), none⟩] none)
 (.seq (.region [⟨(some 7), .load (some 3) (.t 1), none⟩,
  ⟨(some 8), .call (.c (.fn 47 [] [])) [(.t 7)], none⟩,
  ⟨(some 6), .mov (.t 8), none⟩,
  ⟨(some 9), .extract (.t 6) 0, none⟩,
  ⟨(some 10), .extract (.t 6) 1, none⟩,
  ⟨(some 11), .extract (.t 6) 2, none⟩,
  ⟨(some 2), .mov (.t 9), none⟩,
  ⟨(some 3), .mov (.t 10), none⟩,
  ⟨(some 5), .mov (.t 11), none⟩] none)
 (.seq (.seq (.region [⟨(some 12), .mov (.t 5), none⟩,
  ⟨(some 13), .un .not (.t 12), none⟩] none)
 (.cond (.t 13) (.seq (.region [⟨(some 2), .mov (.c (.int .i64 0)), none⟩,
  ⟨(some 3), .mov (.c (.int .i64 0)), none⟩,
  ⟨(some 4), .mov (.c (.int .i64 5)), none⟩] none)
 (.ret))
 (.skip)))
 (.seq (.region [⟨(some 14), .mov (.t 2), none⟩,
  ⟨(some 15), .mov (.t 3), none⟩,
  ⟨(some 2), .mov (.t 14), none⟩,
  ⟨(some 3), .mov (.t 15), none⟩,
  ⟨(some 4), .mov (.c (.int .i64 0)), none⟩] none)
 (.ret))))
theorem fn27 : env0.fn 27 = some ⟨16, ic27, [.t 2, .t 3, .t 4]⟩ := by kernel_rfl
-- pneumatic/pneumaticref05.Size
def ic30 : IC := .seq (.region [⟨(some 1), .box (.t 0), none⟩,
  ⟨(some 2), .mov (.c (.int .i64 0)), none⟩,
  ⟨(some 3), .mov (.c (.int .i64 0)), none⟩,
  ⟨(some 4), .mov (.c (.int .i64 0)), none⟩] none)
 (.seq (.seq (.region [⟨(some 5), .load (some 3) (.t 1), none⟩,
  ⟨(some 6), .call (.c (.fn 48 [] [])) [(.t 5)], none⟩,
  ⟨(some 7), .un .not (.t 6), none⟩] none)
 (.cond (.t 7) (.seq (.region [⟨(some 2), .mov (.c (.int .i64 0)), none⟩,
  ⟨(some 3), .mov (.c (.int .i64 0)), none⟩,
  ⟨(some 4), .mov (.c (.int .i64 5)), none⟩] none)
 (.ret))
 (.skip)))
 (.seq (.region [⟨(some 8), .load (some 3) (.t 1), none⟩,
  ⟨(some 9), .call (.c (.fn 67 [] [])) [(.t 8), (.c (.int .i64 256))], none⟩,
  ⟨(some 10), .load (some 3) (.t 1), none⟩,
  ⟨(some 11), .call (.c (.fn 68 [] [])) [(.t 10)], none⟩,
  ⟨(some 2), .mov (.t 9), none⟩,
  ⟨(some 3), .mov (.t 11), none⟩,
  ⟨(some 4), .mov (.c (.int .i64 0)), none⟩] (some [[], [0], [], [2, 1], [1, 3, 0, 1], [3, 4, 0, 1, 2, 3, 4], [5, 0, 1, 2, 3, 4, 5]]))
 (.ret)))
theorem fn30 : env0.fn 30 = some ⟨12, ic30, [.t 2, .t 3, .t 4]⟩ := by kernel_rfl
def mxI (a b : Int) : Int := if b > a then b else a
mutual
def dpX : Ex → Int
 | .nd _ _ args => dpL 0 args + 1
def dpL (a : Int) : List Ex → Int
 | [] => a
 | y :: ys => dpL (mxI a (dpX y)) ys
end
theorem mxI_le {a b : Int} : a ≤ mxI a b ∧ b ≤ mxI a b := by unfold mxI; split <;> omega
theorem zng : ∀ (l : List Ex) (a : Int), a ≤ dpL a l
 | [], a => by rw [dpL]; omega
 | y :: ys, a => by
  rw [dpL]
  have := zng ys (mxI a (dpX y))
  have := @mxI_le a (dpX y)
  omega
theorem zh2 : ∀ x : Ex, 1 ≤ dpX x
 | .nd op ix args => by rw [dpX]; have := zng args 0; omega
theorem znh : ∀ (l : List Ex) (a : Int), 0 ≤ a → dpL a l = mxI a (dpL 0 l)
 | [], a, h => by rw [dpL, dpL]; unfold mxI; split <;> omega
 | y :: ys, a, h => by
  have hp := zh2 y
  rw [dpL, dpL, znh ys (mxI a (dpX y)) (by unfold mxI; split <;> omega), znh ys (mxI 0 (dpX y)) (by unfold mxI; split <;> omega)]
  generalize dpL 0 ys = z at *
  unfold mxI
  repeat' split
  all_goals omega
mutual
theorem zqp : ∀ x : Ex, dpX x ≤ szX x
 | .nd op ix args => by
  rw [dpX, szX]
  have := dpL_sz args
  omega
theorem dpL_sz : ∀ l : List Ex, dpL 0 l ≤ szL l
 | [] => by rw [dpL, szL]; omega
 | y :: ys => by
  have h1 := zqp y
  have h2 := dpL_sz ys
  have h3 := zh2 y
  have h4 := zbh ys
  have h5 := zd6 y
  rw [dpL, szL, znh _ _ (by unfold mxI; split <;> omega)]
  generalize dpL 0 ys = z at *
  unfold mxI
  repeat' split
  all_goals omega
end
mutual
theorem walkD : ∀ (x : Ex) (d n m : Int), 1 ≤ d → d ≤ 17 → 0 ≤ n → n + szX x ≤ 256 → zc5 (17 - d).toNat x = true → zc7 zdz d x (n, m) = .inl (n + szX x, mxI m (d - 1 + dpX x))
 | .nd op ix args => fun d n m hd h17 h0 hn hb => by
  rw [szX] at hn ⊢
  rw [zc7, dpX]
  have hs0 := zbh args
  have h16 : d ≤ 16 := by
   by_cases h : d ≤ 16
   ·exact h
   ·rw [show (17 - d).toNat = 0 by omega] at hb
    simp [zc5] at hb
  rw [show (17 - d).toNat = (16 - d).toNat + 1 by omega, zec] at hb
  have hst : zdz (n, m) d (.nd op ix args) = .inl (n + 1, zj9 m d) := by
   unfold zdz
   rw [if_neg (by dsimp only; omega)]
  rw [hst]
  dsimp only
  rw [walkLD args d (n + 1) (zj9 m d) hd h16 (by omega) (by omega) hb (by unfold zj9; split <;> omega), ← Int.add_assoc]
  have h1 := zng args 0
  generalize dpL 0 args = z at *
  have : mxI (zj9 m d) (d + z) = mxI m (d - 1 + (z + 1)) := by
   unfold mxI zj9
   repeat' split
   all_goals omega
  rw [this]
theorem walkLD : ∀ (l : List Ex) (d n m : Int), 1 ≤ d → d ≤ 16 → 0 ≤ n → n + szL l ≤ 256 → l.all (zc5 (16 - d).toNat) = true → d ≤ m → zc3 zdz d l (n, m) = .inl (n + szL l, mxI m (d + dpL 0 l))
 | [] => fun d n m hd h16 h0 hn hb hm => by
  rw [szL, zc3, Int.add_zero, dpL]
  have : mxI m (d + 0) = m := by unfold mxI; split <;> omega
  rw [this]
 | y :: ys => fun d n m hd h16 h0 hn hb hm => by
  rw [szL] at hn ⊢
  have hp := zd6 y
  have hq := zbh ys
  rw [List.all_cons, Bool.and_eq_true] at hb
  have hy := walkD y (d + 1) n m (by omega) (by omega) h0 (by omega) (by rw [show (17 - (d + 1)).toNat = (16 - d).toNat by omega]; exact hb.1)
  rw [zc3, if_pos h16, hy]
  dsimp only
  rw [walkLD ys d (n + szX y) _ hd h16 (by omega) (by omega) hb.2 (by have := @mxI_le m (d + 1 - 1 + dpX y); omega), dpL, ← Int.add_assoc]
  have h3 := zh2 y
  have h4 := zng ys 0
  rw [znh ys (mxI 0 (dpX y)) (by unfold mxI; split <;> omega)]
  generalize dpL 0 ys = z at *
  have : mxI (mxI m (d + 1 - 1 + dpX y)) (d + z) = mxI m (d + mxI (mxI 0 (dpX y)) z) := by
   unfold mxI
   repeat' split
   all_goals omega
  rw [this]
end
def zp5 (x : Ex) : AV := if zcw x = true then .tup [.int .i64 (szX x), .int .i64 (dpX x), .int .i64 0] else .tup [.int .i64 0, .int .i64 0, .int .i64 5]
theorem zox (x : Ex) : zfe x = if zcw x = true then .tup [.int .i64 (szX x), .int .i64 (dpX x), .bool true] else .tup [.int .i64 0, .int .i64 0, .bool false] := by
 unfold zfe
 by_cases hl : zcw x = true
 ·have h := (zc9 x).1 hl
  rw [if_pos hl, walkD x 1 0 0 (by omega) (by omega) (by omega) (by omega) h.2]
  dsimp only
  have h1 := zh2 x
  have : mxI 0 (1 - 1 + dpX x) = dpX x := by unfold mxI; split <;> omega
  rw [this, Int.zero_add]
 ·have hw := walkM x 1 0 0 (by omega) (by omega) (by omega) (by omega)
  rw [Int.zero_add, show ((17 : Int) - 1).toNat = 16 from rfl, if_neg (fun h => hl ((zc9 x).2 h))] at hw
  rw [if_neg hl, hw]
theorem size27 (x : Ex) (hs : Slim x) : PF Try.prog 27 [.agg (cX x)] (zp5 x) := by
 have p47 := zl2 x hs
 rw [zox] at p47
 unfold zp5
 generalize szX x = a at *
 generalize dpX x = b at *
 generalize zcw x = c at *
 obtain ⟨op, ix, args⟩ := x
 refine zb2 env0_ok fn27 [(0, .agg (cX (.nd op ix args)))] (by show 1 ≤ 16; decide) rfl fun w0 N0 => ?_
 unfold ic27
 refine za7 (za0 rfl (zcu rfl rfl (za3 rfl (za3 rfl (za3 rfl (za4 (za5 ?_)))))))
 refine zdy [] [(0, 0, cX (.nd op ix args))] [(1, .vptr (cX (.nd op ix args)))] rfl (.cons rfl rfl .nil) .nil (.cons rfl (.fptr rfl rfl) .nil) ?_
 repeat (first | refine za7 ?_ | refine za0 rfl ?_ | refine zan rfl rfl rfl rfl ?_)
 refine zaq rfl rfl p47 (fun h => Bool.noConfusion (show false = true from h)) ?_
 cases c with
 | true =>
  rw [if_pos rfl, if_pos rfl]
  repeat (first | refine za7 ?_ | refine za0 rfl ?_ | refine za4 ?_ | refine za5 ?_ | refine zaf ?_ | refine zc0 rfl ?_ | refine zae ?_ | refine za3 rfl ?_ | refine zi3 rfl rfl ?_ | refine zco rfl rfl ?_)
  exact zac ⟨.inr rfl, _, rfl, rfl⟩
 | false =>
  rw [if_neg Bool.false_ne_true, if_neg Bool.false_ne_true]
  repeat (first | refine za7 ?_ | refine za0 rfl ?_ | refine za4 ?_ | refine za5 ?_ | refine zbl rfl ?_ | refine zae ?_ | refine za8 ?_ | refine za3 rfl ?_ | refine zi3 rfl rfl ?_ | refine zco rfl rfl ?_)
  exact zac ⟨.inr rfl, _, rfl, rfl⟩
end Go.Proofs.Ytmnkjofaodbokaa
namespace Go.Proofs.Ytmnkjofaodbokaa
open Go Go.Am
theorem zc6 {f g : FuncId} {args bs : List AV} {v w : AV} {l : List (FuncId × List AV × AV)} (h : g ≠ f) (k : zfb l f args = some w) : zfb ((g, bs, v) :: l) f args = some w := by
 simp [zfb, h, k]
theorem dpL_drop {args : List Ex} {i : Nat} (h : i < args.length) (a : Int) : dpL a (args.drop i) = dpL (mxI a (dpX args[i])) (args.drop (i + 1)) := by
 rw [List.drop_eq_getElem_cons h, dpL]
theorem zsq {op ix : Int} {args : List Ex} {y : Ex} (h : y ∈ args) : szX y ≤ szX (.nd op ix args) := by
 rw [szX]
 have : ∀ l : List Ex, y ∈ l → szX y ≤ szL l := by
  intro l
  induction l with
  | nil => intro h; cases h
  | cons a l ih =>
   intro h
   rw [szL]
   have := zd6 a
   have := zbh l
   rcases List.mem_cons.1 h with rfl | h
   ·omega
   ·have := ih h; omega
 have := this args h
 omega
set_option maxHeartbeats 2000000 in
theorem depth68 : ∀ (q : Nat) (x : Ex), SizeOf.sizeOf x ≤ q → szX x ≤ 256 → PF Try.prog 68 [.agg (cX x)] (.int .i64 (dpX x)) := by
 intro q
 induction q with
 | zero => intro x hq; cases x; simp at hq
 | succ q ih =>
  intro x hq hz
  have hdz := zqp x
  obtain ⟨op, ix, args⟩ := x
  have hlen := zfu args
  have hszl : szL args ≤ 255 := by rw [szX] at hz; omega
  refine zb2 env0_ok fn68 [(0, .agg (cX (.nd op ix args)))] (by show 1 ≤ 22; decide) rfl fun w0 N0 => ?_
  unfold ic68
  rw [dpX] at hdz ⊢
  refine za7 (za0 rfl (zcu rfl rfl (za3 rfl (za4 (za5 ?_)))))
  refine zdy [] [(0, 0, cX (.nd op ix args))] [(1, .vptr (cX (.nd op ix args)))] rfl (.cons rfl rfl .nil) .nil (.cons rfl (.fptr rfl rfl) .nil) ?_
  repeat (first | refine za7 ?_ | refine za0 rfl ?_ | refine za4 ?_ | refine za5 ?_ | refine zat ?_ | refine za3 rfl ?_)
  refine zeq (fun mm S => ∃ i a, mm = args.length - i ∧ i ≤ args.length ∧ 0 ≤ a ∧ a ≤ 256 ∧ dpL 0 args = dpL a (args.drop i) ∧
    S = st 22 [(1, .vptr (cX (.nd op ix args))), (3, .int .i64 a), (4, .int .i64 (i : Nat))] [] 0 1) args.length
   (zaz (.cons rfl (.cons rfl (.cons rfl .nil)))) ⟨0, 0, rfl, Nat.zero_le _, by omega, by omega, rfl, rfl⟩ ?_
  rintro mm S ⟨i, a, rfl, hi, ha0, ha1, hall, rfl⟩
  unfold b68_0
  repeat (first | refine za7 ?_ | refine za0 rfl ?_ | refine za3 rfl ?_ | refine zaj rfl rfl ?_ | refine zef rfl rfl rfl ?_ | refine zcz rfl rfl ?_)
  refine zam rfl rfl rfl (fun h3 => ?_) fun h3 => ?_
  ·have hlt : i < args.length := by
    have := of_decide_eq_true h3
    rw [zao] at this
    omega
   rw [dpL_drop hlt] at hall
   have hge := ze2 hlt
   have hmem : args[i] ∈ args := List.getElem_mem hlt
   have py := ih args[i] (by have := ziu (op := op) (ix := ix) hmem; omega) (by have := zsq (op := op) (ix := ix) hmem; omega)
   have hyd := zqp args[i]
   have hyz := zsq (op := op) (ix := ix) hmem
   have hyp := zh2 args[i]
   generalize args[i] = y at *
   generalize dpX y = dy at *
   obtain ⟨yo, yi, ya⟩ := y
   repeat (first | refine za7 ?_ | refine za0 rfl ?_ | refine za4 ?_ | refine za5 ?_ | refine zat ?_ | refine zaf ?_ | refine zbl rfl ?_ | refine za3 rfl ?_ | refine zaj rfl rfl ?_ | refine zan rfl rfl rfl rfl ?_ | refine zef rfl rfl rfl ?_ | refine zff rfl rfl (by omega) (by assumption) rfl ?_)
   refine zaq rfl rfl py (fun h => Bool.noConfusion (show false = true from h)) ?_
   refine zl3 (r := mxI a dy) rfl rfl rfl ?_
   repeat (first | refine za0 rfl ?_ | refine za4 ?_ | refine za5 ?_ | refine zcv ?_ | refine za3 rfl ?_ | refine zdm (op := .add) rfl rfl rfl ?_)
   rw [zbj i (by omega)]
   exact zck (show args.length - (i + 1) < args.length - i by omega) (zaz (.cons rfl (.cons rfl (.cons rfl .nil)))) ⟨i + 1, _, rfl, hlt, by unfold mxI; split <;> omega, by unfold mxI; split <;> omega, hall, rfl⟩
  ·have hi2 : i = args.length := by
    have := of_decide_eq_false h3
    rw [zao] at this
    omega
   rw [hi2, List.drop_length, dpL] at hall
   repeat (first | refine za4 ?_ | refine za5 ?_ | refine zc0 rfl ?_ | refine zea ?_ | refine zbi ?_)
   refine zhz ?_
   repeat (first | refine za7 ?_ | refine za0 rfl ?_ | refine za4 ?_ | refine za5 ?_ | refine zae ?_ | refine ze9 ?_ | refine za3 rfl ?_ | refine zdm (op := .add) rfl rfl rfl ?_)
   rw [show IntKind.wrap .i64 (a + 1) = a + 1 from wrap_small _ (by omega) (by omega)]
   exact zac ⟨.inr rfl, _, rfl, by rw [hall]; rfl⟩
theorem size30 (x : Ex) (hs : Slim x) : PF Try.prog 30 [.agg (cX x)] (zp5 x) := by
 have p48 := zro x hs
 unfold zp5
 have p67 := zlz _ x 256 (Nat.le_refl _) hs (by omega) (by omega)
 have p68 : zcw x = true → PF Try.prog 68 [.agg (cX x)] (.int .i64 (dpX x)) := fun h => depth68 _ x (Nat.le_refl _) ((zc9 x).1 h).1
 have hc : zcw x = true → cnt 256 x = szX x := fun h => by rw [zqg 256 (by omega), if_pos ((zc9 x).1 h).1]
 generalize cnt 256 x = cc at *
 generalize szX x = a at *
 generalize dpX x = b at *
 generalize zcw x = c at *
 obtain ⟨op, ix, args⟩ := x
 refine zb2 env0_ok fn30 [(0, .agg (cX (.nd op ix args)))] (by show 1 ≤ 12; decide) rfl fun w0 N0 => ?_
 unfold ic30
 refine za7 (za0 rfl (zcu rfl rfl (za3 rfl (za3 rfl (za3 rfl (za4 (za5 ?_)))))))
 refine zdy [] [(0, 0, cX (.nd op ix args))] [(1, .vptr (cX (.nd op ix args)))] rfl (.cons rfl rfl .nil) .nil (.cons rfl (.fptr rfl rfl) .nil) ?_
 repeat (first | refine za7 ?_ | refine za0 rfl ?_ | refine zan rfl rfl rfl rfl ?_)
 refine zaq rfl rfl p48 (fun h => Bool.noConfusion (show false = true from h)) ?_
 cases c with
 | true =>
  have p68 := p68 rfl
  obtain rfl := hc rfl
  rw [if_pos rfl]
  repeat (first | refine za7 ?_ | refine za4 ?_ | refine za5 ?_ | refine zaf ?_ | refine zc0 rfl ?_ | refine zi3 rfl rfl ?_)
  refine zk9 env0_ok [(67, [.agg (cX (.nd op ix args)), .int .i64 256], .int .i64 cc), (68, [.agg (cX (.nd op ix args))], .int .i64 b)] (fun x hx => by
   rcases List.mem_cons.1 hx with rfl | hx
   ·exact p67
   obtain rfl := List.mem_singleton.1 hx
   exact p68) (fun f => Nat.beq f 67 || Nat.beq f 68) rfl rfl rfl ?_
  repeat (first | refine zan rfl rfl rfl rfl ?_)
  refine zaq rfl rfl zcg (fun h => Bool.noConfusion (show false = true from h)) ?_
  repeat (first | refine zan rfl rfl rfl rfl ?_)
  refine zaq rfl rfl (zc6 (by decide) zcg) (fun h => Bool.noConfusion (show false = true from h)) ?_
  repeat (first | refine za4 ?_ | refine za5 ?_ | refine zae ?_ | refine za3 rfl ?_)
  exact zac ⟨.inr rfl, _, rfl, rfl⟩
 | false =>
  rw [if_neg Bool.false_ne_true]
  repeat (first | refine za7 ?_ | refine za0 rfl ?_ | refine za4 ?_ | refine za5 ?_ | refine zbl rfl ?_ | refine zae ?_ | refine za8 ?_ | refine za3 rfl ?_ | refine zi3 rfl rfl ?_)
  exact zac ⟨.inr rfl, _, rfl, rfl⟩
end Go.Proofs.Ytmnkjofaodbokaa
namespace Go.Proofs.Ytmnkjofaodbokaa
open Go Go.Am
def Gv (b : Nat) (q : List Int) (w : AV) (hp : List (Nat × Nat × AObj)) (nx : Nat) : Prop :=
 (q = [] ∧ w = .nils) ∨ ∃ id sp, w = .ms id sp 1 0 q.length none ∧ Am.look id hp = some (sp, .cells (q.map (AV.int .i64))) ∧ b < id ∧ id < nx
section
variable {b nx : Nat} {q : List Int} {w : AV} {hp : List (Nat × Nat × AObj)}
theorem Gv.fresh (h : Gv b q w hp nx) (ck : Nat) (x : AObj) : Gv b q w ((nx, ck, x) :: hp) (nx + 1) := by
 rcases h with h | ⟨id, sp, e, hl, h1, h2⟩
 ·exact .inl h
 ·exact .inr ⟨id, sp, e, by rw [zai, if_neg (by omega)]; exact hl, h1, by omega⟩
theorem Gv.put (h : Gv b q w hp nx) {i : Nat} (hi : i ≤ b) (x : Nat × AObj) : Gv b q w (zb3 i x hp) nx := by
 rcases h with h | ⟨id, sp, e, hl, h1, h2⟩
 ·exact .inl h
 ·exact .inr ⟨id, sp, e, by rw [za1, if_neg (by omega)]; exact hl, h1, h2⟩
theorem Gv.view {S : AS} {d : Nat} (h : Gv b q w S.heap nx) : S.view (d + 1) w = vsI q := by
 rcases h with ⟨rfl, rfl⟩ | ⟨id, sp, rfl, hl, _, _⟩
 ·rfl
 ·exact zsy q rfl hl
theorem o_gapp {w0 : World} {N0 n d ck : Nat} {md : Md} {k : List Fr} {Q : Exit → AS → Prop} {l : List (Nat × AV)} {ios : List Opr} {bytes j sj : Nat} {x0 : Int} {z : List AV} {s x : Arg} (hF : Gv b q w hp nx) (hbn : b < nx) (hlen : q.length ≤ 1000000) (hs : zbo s l = some w) (hx : zbo x l = some (.ms j sj 1 0 1 (some 1))) (hj : Am.look j hp = some (sj, .cells [.int .i64 x0])) (hb : bytes ≤ 16777216)
  (go : ∀ w' hp' nx' ck', Gv b (q ++ [x0]) w' hp' nx' → b < nx' → (∀ i, i ≤ b → Am.look i hp' = Am.look i hp) → Om Try.prog w0 N0 md (KnP Try.prog w0 N0) ios (st n ((d, w') :: l) hp' nx' ck') k Q) :
  Om Try.prog w0 N0 md (KnP Try.prog w0 N0) (⟨some d, .append 1 bytes z s x, none⟩ :: ios) (st n l hp nx ck) k Q := by
 have hel : ∀ l, (st n l hp nx ck []).elems 1 (.ms j sj 1 0 1 (some 1)) = some [[.int .i64 x0]] := fun l => zjb (xs := [[.int .i64 x0]]) (ys := []) hj rfl fun x hx => by obtain rfl := List.mem_singleton.1 hx; rfl
 rcases hF with ⟨rfl, rfl⟩ | ⟨id, sp, rfl, hl, h1, h2⟩
 ·have hi : iop (st n l hp nx ck) (.append 1 bytes z s x) = some (.ms nx ck 1 0 1 none, st n l ((nx, ck, .cells [.int .i64 x0]) :: hp) (nx + 1) (ck + 1)) := by
   simp only [iop, zb4, hs, hx, hel]
   unfold zcf
   rw [if_neg (show ¬ [[AV.int .i64 x0]].length = 0 from Nat.succ_ne_zero 0), if_pos (show [[AV.int .i64 x0]].flatten.all AV.isCell = true ∧ bytes ≤ 16777216 from ⟨rfl, hb⟩)]
   rfl
  exact zgg hi (go _ _ _ _ (.inr ⟨nx, ck, rfl, zau, hbn, Nat.lt_succ_self _⟩) (by omega) fun i hi => by rw [zai, if_neg (by omega)]) (fun _ _ _ _ _ _ _ => rfl)
 ·refine zhp [[.int .i64 x0]] hs hx (hel _) (fun h => Nat.noConfusion h) rfl hb hl (by rw [List.length_map, Nat.mul_one]) (by show _ + 1 ≤ _; omega) ?_ (fun _ _ _ _ _ _ _ => rfl)
  refine go _ _ _ _ (.inr ⟨id, ck, by rw [List.length_append]; rfl, by rw [za1, if_pos rfl, List.map_append]; rfl, h1, h2⟩) hbn fun i hi => by rw [za1, if_neg (by omega)]
end
-- slices.Index[[]int,int]
-- slices.Contains[[]int,int]
def b34_0 : IC := .seq (.region [⟨(some 14), .bin .lss (.t 13) (.t 12), none⟩] none)
 (.seq (.cond (.t 14) (.skip)
 (.exit 0))
 (.seq (.block 1 (.seq (.region [⟨(some 15), .mov (.t 13), none⟩,
  ⟨(some 5), .mov (.t 15), none⟩] none)
 (.seq (.region [⟨(some 16), .mov (.t 0), none⟩,
  ⟨(some 17), .mov (.t 5), none⟩,
  ⟨(some 18), .idxs 1 (.t 16) (.t 17), none⟩,
  ⟨(some 19), .load none (.t 18), none⟩,
  ⟨(some 20), .mov (.t 1), none⟩,
  ⟨(some 21), .mov (.t 5), none⟩,
  ⟨(some 22), .idxs 1 (.t 20) (.t 21), none⟩,
  ⟨(some 23), .load none (.t 22), none⟩,
  ⟨(some 24), .bin .neq (.t 19) (.t 23), none⟩] (some [[], [], [0, 1], [2], [], [], [4, 5], [6], [3, 7]]))
 (.cond (.t 24) (.seq (.region [⟨(some 4), .mov (.c (.bool false)), none⟩] none)
 (.ret))
 (.skip)))))
 (.region [⟨(some 25), .bin .add (.t 13) (.c (.int .i64 1)), none⟩,
  ⟨(some 13), .mov (.t 25), none⟩] none)))
-- slices.Equal[[]int,int]
def ic34 : IC := .seq (.region [⟨(some 4), .mov (.c (.bool false)), none⟩] none)
 (.seq (.seq (.region [⟨(some 6), .mov (.t 0), none⟩,
  ⟨(some 7), .len false (.t 6), none⟩,
  ⟨(some 8), .mov (.t 1), none⟩,
  ⟨(some 9), .len false (.t 8), none⟩,
  ⟨(some 10), .bin .neq (.t 7) (.t 9), none⟩] none)
 (.cond (.t 10) (.seq (.region [⟨(some 4), .mov (.c (.bool false)), none⟩] none)
 (.ret))
 (.skip)))
 (.seq (.seq (.region [⟨(some 11), .mov (.t 0), none⟩,
  ⟨(some 12), .len false (.t 11), none⟩,
  ⟨(some 13), .mov (.c (.int .i64 0)), none⟩] none)
 (.block 0 (.loop b34_0)))
 (.seq (.region [⟨(some 4), .mov (.c (.bool true)), none⟩] none)
 (.ret))))
theorem fn34 : env0.fn 34 = some ⟨26, ic34, [.t 4]⟩ := by kernel_rfl
set_option maxRecDepth 100000 in
theorem equal34 (a : List Int) (ha : a.length ≤ 1000000) : PF Try.prog 34 [vsI a, vsI a] (.bool true) := by
 have hva : (a.map fun z => ([.int .i64 z] : List AV)).length = a.length := List.length_map ..
 refine zb2 env0_ok fn34 [(0, vsI a), (1, vsI a)] (by show 2 ≤ 26; decide) rfl fun w0 N0 => ?_
 unfold ic34
 repeat (first | refine za7 ?_ | refine za0 rfl ?_ | refine za4 ?_ | refine za5 ?_ | refine za3 rfl ?_ | refine zcz rfl rfl ?_)
 refine zcx rfl rfl (by show some (AV.bool (!(_ == _))) = _; simp) ?_
 repeat (first | refine za7 ?_ | refine za0 rfl ?_ | refine za4 ?_ | refine za5 ?_ | refine zat ?_ | refine zaf ?_ | refine zc0 rfl ?_ | refine za3 rfl ?_ | refine zcz rfl rfl ?_)
 refine zeq (fun mm S => ∃ i, mm = a.length - i ∧ i ≤ a.length ∧ S = st 26 [(0, vsI a), (1, vsI a), (12, .int .i64 (a.length : Nat)), (13, .int .i64 (i : Nat))] [] 0 0) a.length
  (zaz (.cons rfl (.cons rfl (.cons (by rw [← hva]; rfl) (.cons rfl .nil))))) ⟨0, rfl, Nat.zero_le _, rfl⟩ ?_
 rintro mm S ⟨i, rfl, hi, rfl⟩
 unfold b34_0
 repeat (first | refine za7 ?_ | refine za0 rfl ?_)
 refine zam rfl rfl rfl (fun h3 => ?_) fun h3 => ?_
 ·have hlt : i < a.length := Int.ofNat_lt.1 (of_decide_eq_true h3)
  have hg := vsI_get hlt
  repeat (first | refine za7 ?_ | refine za0 rfl ?_ | refine za4 ?_ | refine za5 ?_ | refine zat ?_ | refine zaf ?_ | refine zbl rfl ?_ | refine za3 rfl ?_)
  refine z_drawn0 env0_ok rfl rfl rfl ?_
  unfold vsI
  repeat (first | refine za3 rfl ?_ | refine zaj rfl rfl ?_ | refine zff rfl rfl (by omega) (by assumption) rfl ?_)
  refine zcx rfl rfl (by show some (AV.bool (!(a[i] == a[i]))) = _; simp) ?_
  repeat (first | refine za0 rfl ?_ | refine za4 ?_ | refine za5 ?_ | refine zcv ?_ | refine zaf ?_ | refine zc0 rfl ?_ | refine za3 rfl ?_ | refine zdm (op := .add) rfl rfl rfl ?_)
  rw [zbj i (by omega)]
  exact zck (show a.length - (i + 1) < a.length - i by omega) (zaz (.cons rfl (.cons rfl (.cons rfl (.cons rfl .nil))))) ⟨i + 1, rfl, hlt, rfl⟩
 ·repeat (first | refine za7 ?_ | refine za4 ?_ | refine za5 ?_ | refine zc0 rfl ?_ | refine zea ?_ | refine zbi ?_)
  refine zhz ?_
  repeat (first | refine za7 ?_ | refine za0 rfl ?_ | refine za4 ?_ | refine za5 ?_ | refine zae ?_ | refine ze9 ?_ | refine za3 rfl ?_)
  exact zac ⟨.inr rfl, _, rfl, rfl⟩
end Go.Proofs.Ytmnkjofaodbokaa
namespace Go.Proofs.Ytmnkjofaodbokaa
open Go Go.Am
def b94_0 : IC := .seq (.seq (.region [⟨(some 13), .mov (.t 5), none⟩,
  ⟨(some 14), .faddr 2 (.t 2), none⟩,
  ⟨(some 15), .load none (.t 14), none⟩,
  ⟨(some 16), .len false (.t 15), none⟩,
  ⟨(some 17), .bin .lss (.t 13) (.t 16), none⟩] none)
 (.cond (.t 17) (.skip)
 (.exit 0)))
 (.seq (.block 1 (.seq (.region [⟨(some 20), .faddr 2 (.t 2), none⟩,
  ⟨(some 21), .load none (.t 20), none⟩,
  ⟨(some 22), .mov (.t 5), none⟩,
  ⟨(some 23), .idxs 3 (.t 21) (.t 22), none⟩,
  ⟨(some 24), .load (some 3) (.t 23), none⟩,
  ⟨(some 25), .mov (.t 1), none⟩,
  ⟨(some 26), .call (.c (.fn 94 [] [])) [(.t 24), (.t 25)], none⟩] none)
 (.cond (.t 26) (.seq (.region [⟨(some 4), .mov (.c (.bool true)), none⟩] none)
 (.ret))
 (.skip))))
 (.region [⟨(some 18), .mov (.t 5), none⟩,
  ⟨(some 19), .bin .add (.t 18) (.c (.int .i64 1)), none⟩,
  ⟨(some 5), .mov (.t 19), none⟩] none))
-- pneumatic/pneumaticref05.Occurs
def ic94 : IC := .seq (.region [⟨(some 2), .box (.t 0), none⟩,
  ⟨(some 4), .mov (.c (.bool false)), none⟩] none)
 (.seq (.seq (.region [⟨(some 6), .faddr 0 (.t 2), none⟩,
  ⟨(some 7), .load none (.t 6), none⟩,
  ⟨(some 8), .bin .eql (.t 7) (.c (.int .i64 1)), none⟩] none)
 (.cond (.t 8) (.seq (.region [⟨(some 9), .faddr 1 (.t 2), none⟩,
  ⟨(some 10), .load none (.t 9), none⟩,
  ⟨(some 11), .mov (.t 1), none⟩,
  ⟨(some 12), .bin .eql (.t 10) (.t 11), none⟩,
  ⟨(some 4), .mov (.t 12), none⟩] none)
 (.ret))
 (.skip)))
 (.seq (.seq (.region [⟨(some 5), .mov (.c (.int .i64 0)), none⟩] none)
 (.block 0 (.loop b94_0)))
 (.seq (.region [⟨(some 4), .mov (.c (.bool false)), none⟩] none)
 (.ret))))
theorem fn94 : env0.fn 94 = some ⟨27, ic94, [.t 4]⟩ := by kernel_rfl
def b69_0 : IC := .seq (.seq (.region [⟨(some 7), .mov (.t 6), none⟩,
  ⟨(some 8), .mov (.t 1), none⟩,
  ⟨(some 9), .bin .lss (.t 7) (.t 8), none⟩] none)
 (.cond (.t 9) (.skip)
 (.exit 0)))
 (.seq (.block 1 (.seq (.region [⟨(some 12), .load (some 3) (.t 2), none⟩,
  ⟨(some 13), .mov (.t 6), none⟩,
  ⟨(some 14), .call (.c (.fn 94 [] [])) [(.t 12), (.t 13)], none⟩] none)
 (.cond (.t 14) (.region [⟨(some 15), .mov (.t 5), none⟩,
  ⟨(some 16), .mov (.t 6), none⟩,
  ⟨(some 17), .bslice 1 1 [.int .i64 0] [(0, 1, (.t 16))], none⟩,
  ⟨(some 18), .append 1 8 [.int .i64 0] (.t 15) (.t 17), none⟩,
  ⟨(some 5), .mov (.t 18), none⟩] none)
 (.skip))))
 (.region [⟨(some 10), .mov (.t 6), none⟩,
  ⟨(some 11), .bin .add (.t 10) (.c (.int .i64 1)), none⟩,
  ⟨(some 6), .mov (.t 11), none⟩] none))
-- pneumatic/pneumaticref05.Used
def ic69 : IC := .seq (.region [⟨(some 2), .box (.t 0), none⟩,
  ⟨(some 4), .mov (.c (.nils)), none⟩] none)
 (.seq (.region [⟨(some 5), .mov (.c (.nils)), none⟩] none)
 (.seq (.seq (.region [⟨(some 6), .mov (.c (.int .i64 0)), none⟩] none)
 (.block 0 (.loop b69_0)))
 (.seq (.region [⟨(some 19), .mov (.t 5), none⟩,
  ⟨(some 4), .mov (.t 19), none⟩] none)
 (.ret))))
theorem fn69 : env0.fn 69 = some ⟨20, ic69, [.t 4]⟩ := by kernel_rfl
-- pneumatic/pneumaticref05.Variables
def ic31 : IC := .seq (.region [⟨(some 2), .box (.t 0), none⟩,
  ⟨(some 4), .mov (.c (.nils)), none⟩,
  ⟨(some 5), .mov (.c (.int .i64 0)), none⟩] none)
 (.seq (.seq (.region [⟨(some 7), .load (some 3) (.t 2), none⟩,
  ⟨(some 8), .mov (.t 1), none⟩,
  ⟨(some 9), .call (.c (.fn 33 [] [])) [(.t 7), (.t 8)], none⟩,
  ⟨(some 6), .mov (.t 9), none⟩] none)
 (.seq (.region [⟨(some 10), .mov (.t 6), none⟩,
  ⟨(some 11), .bin .neq (.t 10) (.c (.int .i64 0)), none⟩] none)
 (.cond (.t 11) (.seq (.region [⟨(some 12), .mov (.t 6), none⟩,
  ⟨(some 4), .mov (.c (.nils)), none⟩,
  ⟨(some 5), .mov (.t 12), none⟩] none)
 (.ret))
 (.skip))))
 (.seq (.region [⟨(some 13), .load (some 3) (.t 2), none⟩,
  ⟨(some 14), .mov (.t 1), none⟩,
  ⟨(some 15), .call (.c (.fn 69 [] [])) [(.t 13), (.t 14)], none⟩,
  ⟨(some 4), .mov (.t 15), none⟩,
  ⟨(some 5), .mov (.c (.int .i64 0)), none⟩] none)
 (.ret)))
theorem fn31 : env0.fn 31 = some ⟨16, ic31, [.t 4, .t 5]⟩ := by kernel_rfl
mutual
def zmg (v : Int) : Ex → Bool
 | .nd op ix args => if op = 1 then decide (ix = v) else zry v args
def zry (v : Int) : List Ex → Bool
 | [] => false
 | y :: ys => zmg v y || zry v ys
end
theorem zrz (v : Int) {args : List Ex} {i : Nat} (h : i < args.length) : zry v (args.drop i) = (zmg v args[i] || zry v (args.drop (i + 1))) := by
 rw [List.drop_eq_getElem_cons h, zry]
set_option maxHeartbeats 2000000 in
theorem occurs94 (v : Int) : ∀ (q : Nat) (x : Ex), SizeOf.sizeOf x ≤ q → Slim x → PF Try.prog 94 [.agg (cX x), .int .i64 v] (.bool (zmg v x)) := by
 intro q
 induction q with
 | zero => intro x hq; cases x; simp at hq
 | succ q ih =>
  intro x hq hs
  obtain ⟨op, ix, args⟩ := x
  obtain ⟨hlen, hsl⟩ := zhw hs
  refine zb2 env0_ok fn94 [(0, .agg (cX (.nd op ix args))), (1, .int .i64 v)] (by show 2 ≤ 27; decide) rfl fun w0 N0 => ?_
  unfold ic94
  rw [zmg]
  refine za7 (za0 rfl (zcu rfl rfl (za3 rfl (za4 (za5 ?_)))))
  refine zdy [] [(0, 0, cX (.nd op ix args))] [(1, .int .i64 v), (2, .vptr (cX (.nd op ix args)))] rfl (.cons rfl rfl .nil) .nil (.cons rfl (.same rfl) (.cons rfl (.fptr rfl rfl) .nil)) ?_
  repeat (first | refine za7 ?_ | refine za0 rfl ?_ | refine zaj rfl rfl ?_ | refine zef rfl rfl rfl ?_)
  refine zam rfl rfl rfl (fun h1 => ?_) fun h1 => ?_
  ·rw [if_pos (by simpa using h1)]
   repeat (first | refine za7 ?_ | refine za0 rfl ?_ | refine za4 ?_ | refine za5 ?_ | refine zbl rfl ?_ | refine za3 rfl ?_ | refine zaj rfl rfl ?_ | refine zef rfl rfl rfl ?_)
   refine zam rfl rfl rfl (fun h2 => ?_) fun h2 => ?_
   ·repeat (first | refine za4 ?_ | refine za5 ?_ | refine zae ?_ | refine za8 ?_ | refine za3 rfl ?_)
    exact zac ⟨.inr rfl, _, rfl, by rw [decide_eq_true (by simpa using h2)]; rfl⟩
   ·repeat (first | refine za4 ?_ | refine za5 ?_ | refine zae ?_ | refine za8 ?_ | refine za3 rfl ?_)
    exact zac ⟨.inr rfl, _, rfl, by rw [decide_eq_false (by simpa using h2)]; rfl⟩
  ·rw [if_neg (by simpa using h1)]
   repeat (first | refine za7 ?_ | refine za0 rfl ?_ | refine za4 ?_ | refine za5 ?_ | refine zat ?_ | refine zaf ?_ | refine zc0 rfl ?_ | refine za3 rfl ?_)
   refine zeq (fun mm S => ∃ i, mm = args.length - i ∧ i ≤ args.length ∧ zry v args = zry v (args.drop i) ∧
     S = st 27 [(1, .int .i64 v), (2, .vptr (cX (.nd op ix args))), (5, .int .i64 (i : Nat))] [] 0 1) args.length
    (zaz (.cons rfl (.cons rfl (.cons rfl .nil)))) ⟨0, rfl, Nat.zero_le _, rfl, rfl⟩ ?_
   rintro mm S ⟨i, rfl, hi, hall, rfl⟩
   unfold b94_0
   repeat (first | refine za7 ?_ | refine za0 rfl ?_ | refine za3 rfl ?_ | refine zaj rfl rfl ?_ | refine zef rfl rfl rfl ?_ | refine zcz rfl rfl ?_)
   refine zam rfl rfl rfl (fun h3 => ?_) fun h3 => ?_
   ·have hlt : i < args.length := by
     have := of_decide_eq_true h3
     rw [zao] at this
     omega
    rw [zrz v hlt] at hall
    have hge := ze2 hlt
    have hmem : args[i] ∈ args := List.getElem_mem hlt
    have py := ih args[i] (by have := ziu (op := op) (ix := ix) hmem; omega) (hsl _ hmem)
    generalize args[i] = y at *
    generalize zmg v y = oy at *
    obtain ⟨yo, yi, ya⟩ := y
    repeat (first | refine za7 ?_ | refine za0 rfl ?_ | refine za4 ?_ | refine za5 ?_ | refine zat ?_ | refine zaf ?_ | refine zbl rfl ?_ | refine za3 rfl ?_ | refine zaj rfl rfl ?_ | refine zan rfl rfl rfl rfl ?_ | refine zef rfl rfl rfl ?_ | refine zff rfl rfl (by omega) (by assumption) rfl ?_)
    refine zaq rfl rfl py (fun h => Bool.noConfusion (show false = true from h)) ?_
    cases oy with
    | true =>
     repeat (first | refine za7 ?_ | refine za0 rfl ?_ | refine za4 ?_ | refine za5 ?_ | refine zbl rfl ?_ | refine zae ?_ | refine za8 ?_ | refine zb5 ?_ | refine za3 rfl ?_)
     exact zac ⟨.inr rfl, _, rfl, by rw [hall]; rfl⟩
    | false =>
     rw [Bool.false_or] at hall
     repeat (first | refine za0 rfl ?_ | refine za4 ?_ | refine za5 ?_ | refine zcv ?_ | refine zaf ?_ | refine zc0 rfl ?_ | refine za3 rfl ?_ | refine zdm (op := .add) rfl rfl rfl ?_)
     rw [zbj i (by omega)]
     exact zck (show args.length - (i + 1) < args.length - i by omega) (zaz (.cons rfl (.cons rfl (.cons rfl .nil)))) ⟨i + 1, rfl, hlt, hall, rfl⟩
   ·have hi2 : i = args.length := by
     have := of_decide_eq_false h3
     rw [zao] at this
     omega
    rw [hi2, List.drop_length, zry] at hall
    repeat (first | refine za4 ?_ | refine za5 ?_ | refine zc0 rfl ?_ | refine zea ?_ | refine zbi ?_)
    refine zhz ?_
    repeat (first | refine za7 ?_ | refine za0 rfl ?_ | refine za4 ?_ | refine za5 ?_ | refine zae ?_ | refine ze9 ?_ | refine za3 rfl ?_)
    exact zac ⟨.inr rfl, _, rfl, by rw [hall]; rfl⟩
def zoe (x : Ex) (n : Nat) : List Int := ((List.range n).filter fun v => zmg (v : Nat) x).map fun v => ((v : Nat) : Int)
theorem zsw (x : Ex) (n : Nat) : zoe x (n + 1) = if zmg (n : Nat) x = true then zoe x n ++ [((n : Nat) : Int)] else zoe x n := by
 unfold zoe
 rw [List.range_succ, List.filter_append, List.map_append]
 by_cases h : zmg (n : Nat) x = true
 ·rw [if_pos h, List.filter_cons_of_pos (p := fun v : Nat => zmg (v : Int) x) h]; rfl
 ·rw [if_neg h, List.filter_cons_of_neg (p := fun v : Nat => zmg (v : Int) x) h, List.filter_nil, List.map_nil, List.append_nil]
theorem zof (x : Ex) (n : Nat) : (zoe x n).length ≤ n := by
 unfold zoe
 rw [List.length_map]
 have := List.length_filter_le (fun v => zmg (v : Nat) x) (List.range n)
 rw [List.length_range] at this
 exact this
theorem used69 (x : Ex) (hs : Slim x) (n : Nat) (hn : n ≤ 256) : PF Try.prog 69 [.agg (cX x), .int .i64 (n : Nat)] (vsI (zoe x n)) := by
 have p94 := fun v => occurs94 v _ x (Nat.le_refl _) hs
 have hu := fun i => zsw x i
 have hul := zof x
 generalize zoe x = us at *
 have h0 : us 0 = [] := List.length_eq_zero_iff.1 (by have := hul 0; omega)
 generalize (fun v => zmg v x) = oc at *
 obtain ⟨op, ix, args⟩ := x
 refine zb2 env0_ok fn69 [(0, .agg (cX (.nd op ix args))), (1, .int .i64 (n : Nat))] (by show 2 ≤ 20; decide) rfl fun w0 N0 => ?_
 unfold ic69
 refine za7 (za0 rfl (zcu rfl rfl (za3 rfl (za4 (za5 ?_)))))
 refine zdy [] [(0, 0, cX (.nd op ix args))] [(1, .int .i64 (n : Nat)), (2, .vptr (cX (.nd op ix args)))] rfl (.cons rfl rfl .nil) .nil (.cons rfl (.same rfl) (.cons rfl (.fptr rfl rfl) .nil)) ?_
 repeat (first | refine za7 ?_ | refine za0 rfl ?_ | refine za4 ?_ | refine za5 ?_ | refine zat ?_ | refine za3 rfl ?_)
 refine zeq (fun mm S => ∃ i w hp nx ck, mm = n - i ∧ i ≤ n ∧ Gv 0 (us i) w hp nx ∧
   S = st 20 [(1, .int .i64 (n : Nat)), (2, .vptr (cX (.nd op ix args))), (5, w), (6, .int .i64 (i : Nat))] hp nx ck) n
  (zaz (.cons rfl (.cons rfl (.cons rfl (.cons rfl .nil))))) ⟨0, .nils, _, _, _, rfl, Nat.zero_le _, .inl ⟨h0, rfl⟩, rfl⟩ ?_
 rintro mm S ⟨i, w, hp, nx, ck, rfl, hi, hG, rfl⟩
 unfold b69_0
 repeat (first | refine za7 ?_ | refine za0 rfl ?_ | refine za3 rfl ?_)
 refine zam rfl rfl rfl (fun h3 => ?_) fun h3 => ?_
 ·have hlt : i < n := Int.ofNat_lt.1 (of_decide_eq_true h3)
  have p1 := p94 (i : Nat)
  have hui := hu i
  have hli := hul i
  generalize zmg (i : Nat) (.nd op ix args) = b at *
  repeat (first | refine za7 ?_ | refine za0 rfl ?_ | refine za4 ?_ | refine za5 ?_ | refine zat ?_ | refine zaf ?_ | refine zbl rfl ?_ | refine za3 rfl ?_ | refine zan rfl rfl rfl rfl ?_)
  refine zaq rfl rfl p1 (fun h => Bool.noConfusion (show false = true from h)) ?_
  cases b with
  | true =>
   rw [if_pos rfl] at hui
   repeat (first | refine za0 rfl ?_ | refine za4 ?_ | refine za5 ?_ | refine zbl rfl ?_ | refine za3 rfl ?_ | refine zju rfl rfl ?_)
   refine o_gapp (hG.fresh ck _) (Nat.succ_pos nx) (by omega) rfl rfl zau (by decide) fun w' hp' nx' ck' g1 g2 g3 => ?_
   repeat (first | refine za0 rfl ?_ | refine za4 ?_ | refine za5 ?_ | refine zcv ?_ | refine za3 rfl ?_ | refine zdm (op := .add) rfl rfl rfl ?_)
   rw [zbj i (by omega)]
   exact zck (show n - (i + 1) < n - i by omega) (zaz (.cons rfl (.cons rfl (.cons rfl (.cons rfl .nil))))) ⟨i + 1, w', hp', nx', ck', rfl, hlt, by rw [hui]; exact g1, rfl⟩
  | false =>
   rw [if_neg Bool.false_ne_true] at hui
   repeat (first | refine za0 rfl ?_ | refine za4 ?_ | refine za5 ?_ | refine zcv ?_ | refine zaf ?_ | refine zc0 rfl ?_ | refine za3 rfl ?_ | refine zdm (op := .add) rfl rfl rfl ?_)
   rw [zbj i (by omega)]
   exact zck (show n - (i + 1) < n - i by omega) (zaz (.cons rfl (.cons rfl (.cons rfl (.cons rfl .nil))))) ⟨i + 1, w, hp, nx, ck, rfl, hlt, by rw [hui]; exact hG, rfl⟩
 ·have hi2 : i = n := by
   have : ¬ i < n := fun h => of_decide_eq_false h3 (Int.ofNat_lt.2 h)
   omega
  subst hi2
  repeat (first | refine za4 ?_ | refine za5 ?_ | refine zc0 rfl ?_ | refine zea ?_ | refine zbi ?_)
  refine zhz ?_
  repeat (first | refine za7 ?_ | refine za0 rfl ?_ | refine za4 ?_ | refine za5 ?_ | refine zae ?_ | refine ze9 ?_ | refine za3 rfl ?_)
  exact zac ⟨.inr rfl, _, rfl, hG.view⟩
def zpb (x : Ex) (n : Int) : AV := if zc8 x n = 0 then .tup [vsI (zoe x n.toNat), .int .i64 0] else .tup [.vs [], .int .i64 (zc8 x n)]
theorem zms (x : Ex) (hs : Slim x) (n : Int) : PF Try.prog 31 [.agg (cX x), .int .i64 n] (zpb x n) := by
 have p33 := zqc x hs n
 unfold zpb
 have p69 : zc8 x n = 0 → PF Try.prog 69 [.agg (cX x), .int .i64 n] (vsI (zoe x n.toNat)) := fun h => by
  have hn : 0 ≤ n ∧ n ≤ 256 := by
   unfold zc8 at h
   split at h <;> omega
  obtain ⟨m, rfl⟩ := Int.eq_ofNat_of_zero_le hn.1
  exact used69 x hs m (by omega)
 generalize zoe x n.toNat = u at *
 generalize zc8 x n = e at *
 obtain ⟨op, ix, args⟩ := x
 refine zb2 env0_ok fn31 [(0, .agg (cX (.nd op ix args))), (1, .int .i64 n)] (by show 2 ≤ 16; decide) rfl fun w0 N0 => ?_
 unfold ic31
 refine za7 (za0 rfl (zcu rfl rfl (za3 rfl (za3 rfl (za4 (za5 ?_))))))
 refine zdy [] [(0, 0, cX (.nd op ix args))] [(1, .int .i64 n), (2, .vptr (cX (.nd op ix args)))] rfl (.cons rfl rfl .nil) .nil (.cons rfl (.same rfl) (.cons rfl (.fptr rfl rfl) .nil)) ?_
 repeat (first | refine za7 ?_ | refine za0 rfl ?_ | refine za3 rfl ?_ | refine zan rfl rfl rfl rfl ?_)
 refine zaq rfl rfl p33 (fun h => Bool.noConfusion (show false = true from h)) ?_
 repeat (first | refine za7 ?_ | refine za0 rfl ?_ | refine za4 ?_ | refine za5 ?_ | refine za3 rfl ?_)
 refine zam rfl rfl rfl (fun h => ?_) fun h => ?_
 ·rw [if_neg (by simpa using h)]
  repeat (first | refine za7 ?_ | refine za0 rfl ?_ | refine za4 ?_ | refine za5 ?_ | refine zbl rfl ?_ | refine zae ?_ | refine za8 ?_ | refine za3 rfl ?_)
  exact zac ⟨.inr rfl, _, rfl, rfl⟩
 ·have h : e = 0 := by simpa using h
  rw [if_pos h]
  repeat (first | refine za7 ?_ | refine za0 rfl ?_ | refine za4 ?_ | refine za5 ?_ | refine zaf ?_ | refine zc0 rfl ?_ | refine za3 rfl ?_ | refine zan rfl rfl rfl rfl ?_)
  refine zaq rfl rfl (p69 h) (fun h => Bool.noConfusion (show false = true from h)) ?_
  repeat (first | refine za4 ?_ | refine za5 ?_ | refine zae ?_ | refine za3 rfl ?_)
  exact zac ⟨.inr rfl, _, rfl, rfl⟩
end Go.Proofs.Ytmnkjofaodbokaa
namespace Go.Proofs.Ytmnkjofaodbokaa
open Go Go.Am
section
variable {σ τ : Type} {step : σ → Int → Ex → σ ⊕ τ} {M : Nat → Prop} {I : σ → HS → Prop} {J : τ → HS → Prop}
mutual
theorem zt0 {m : σ → Int} (hm : ∀ s d x s1, step s d x = .inl s1 → m s1 ≤ m s + 1) : ∀ (x : Ex) (d : Int) (s s1 : σ), zc7 step d x s = .inl s1 → m s1 ≤ m s + szX x
 | .nd op ix args => fun d s s1 h => by
  rw [zc7] at h
  rw [szX]
  cases hst : step s d (.nd op ix args) with
  | inr t => rw [hst] at h; cases h
  | inl s2 =>
   rw [hst] at h
   have h1 := hm s d _ s2 hst
   have h2 := zmt hm args d s2 s1 h
   omega
theorem zmt {m : σ → Int} (hm : ∀ s d x s1, step s d x = .inl s1 → m s1 ≤ m s + 1) : ∀ (l : List Ex) (d : Int) (s s1 : σ), zc3 step d l s = .inl s1 → m s1 ≤ m s + szL l
 | [] => fun d s s1 h => by
  rw [zc3] at h
  injection h with h
  subst h
  rw [szL]; omega
 | y :: ys => fun d s s1 h => by
  have hp := zd6 y
  rw [zc3] at h
  rw [szL]
  by_cases hd : d ≤ 16
  ·rw [if_pos hd] at h
   cases hw : zc7 step (d + 1) y s with
   | inr t => rw [hw] at h; cases h
   | inl s2 =>
    rw [hw] at h
    have h1 := zt0 hm y (d + 1) s s2 hw
    have h2 := zmt hm ys d s2 s1 h
    omega
  ·rw [if_neg hd] at h
   have h2 := zmt hm ys d s s1 h
   omega
end
set_option maxHeartbeats 4000000 in
theorem visitB {w0 : World} {N0 a sa b sb id sp : Nat} (hloc : Local M I) {B : Int} {m : σ → Int} (hm : ∀ s d x s1, step s d x = .inl s1 → m s1 ≤ m s + 1) (hy : ∀ s d x H, m s + 1 ≤ B → I s H → CT Try.prog w0 N0 (.yield id sp) [.int .i64 d, .agg (cX x)] H (zph M I J H (step s d x))) :
  ∀ (n : Nat) (x : Ex) (d : Int) (H : HS) (s : σ), SizeOf.sizeOf x ≤ n → Slim x → 0 ≤ d → d ≤ 17 → I s H → Cap M a sa b sb id sp H → m s + szX x ≤ B →
   FT Try.prog w0 N0 91 [.agg (cX x), .int .i64 d, .mptr a sa 0, .mptr b sb 0] H (zph M I J H (zc7 step d x s)) := by
 intro n
 induction n with
 | zero => intro x d H s hn; cases x; simp at hn
 | succ n ih =>
  intro x d H s hn hw h0 h17 hI hC hB
  have hszp := zd6 x
  obtain ⟨op, ix, args⟩ := x
  refine ziz env0_ok fn91 [(0, .agg (cX (.nd op ix args))), (1, .int .i64 d), (2, .mptr a sa 0), (3, .mptr b sb 0)] (by show 4 ≤ 32; decide) rfl ?_
  unfold ic91
  repeat (first | refine za7 ?_ | refine za0 rfl ?_ | refine za4 ?_ | refine za5 ?_ | refine za3 rfl ?_ | refine zcu rfl rfl ?_)
  have hC1 := hC.keep (Keep.new M H (H.clk, .cells (cX (.nd op ix args))))
  refine zbs rfl hC1.ha hC1.la rfl ?_
  repeat (first | refine za3 rfl ?_)
  refine zfg rfl zau (Nat.lt_succ_self _) rfl rfl ?_
  refine o_ct _ rfl rfl (hy s d (.nd op ix args) ⟨_, _, _⟩ (by omega) (hloc.new hI _ _)) (fun _ _ _ _ hm => absurd hm List.not_mem_nil) fun v H2 hF => ?_
  obtain ⟨hK, hF⟩ := hF
  have hK2 : Keep M H H2 := (Keep.new M H _).trans hK
  have hC2 := hC.keep hK2
  obtain ⟨hlen, hsl⟩ : args.length < 9223372036854775808 ∧ ∀ y ∈ args, Slim y := by cases hw with | nd h k => exact ⟨h, k⟩
  have hwx : zc7 step d (.nd op ix args) s = match step s d (.nd op ix args) with | .inr t => .inr t | .inl s' => zc3 step d args s' := by rw [zc7]; cases step s d (.nd op ix args) <;> rfl
  rw [hwx]
  cases hst : step s d (.nd op ix args) with
  | inr t =>
   rw [hst] at hF
   obtain ⟨rfl, hJ⟩ := hF
   repeat (first | refine za7 ?_ | refine za0 rfl ?_ | refine za4 ?_ | refine za5 ?_ | refine zbl rfl ?_ | refine zae ?_ | refine za8 ?_ | refine za3 rfl ?_ | refine zi3 rfl rfl ?_)
   exact zac ⟨.inr rfl, _, rfl, hK2, rfl, hJ⟩
  | inl s1 =>
   rw [hst] at hF
   obtain ⟨rfl, hI1⟩ := hF
   repeat (first | refine za7 ?_ | refine za0 rfl ?_ | refine za4 ?_ | refine za5 ?_ | refine zaf ?_ | refine zc0 rfl ?_ | refine zaa rfl ?_ | refine zi3 rfl rfl ?_)
   refine zbs rfl ((hK.look H.next (fun hm => Nat.lt_irrefl _ (hloc.lt s H hI _ hm)) (Nat.lt_succ_self _)).trans zau) (Nat.lt_of_lt_of_le (Nat.lt_succ_self _) hK.next) rfl ?_
   repeat (first | refine za4 ?_ | refine za5 ?_ | refine zat ?_ | refine za3 rfl ?_ | refine zcz rfl rfl ?_)
   refine zeq (fun mm S => ∃ i s' H', mm = args.length - i ∧ i ≤ args.length ∧ zc3 step d args s1 = zc3 step d (args.drop i) s' ∧ m s' + szL (args.drop i) ≤ B ∧ I s' H' ∧ Keep M H H' ∧
     S = st 32 [(1, .int .i64 d), (3, .mptr b sb 0), (15, .vs (cXs args)), (16, .int .i64 (cXs args).length), (17, .int .i64 (i : Nat))] H'.heap H'.next H'.clk) args.length
    (zaz (.cons rfl (.cons rfl (.cons rfl (.cons rfl (.cons rfl .nil)))))) ⟨0, s1, H2, rfl, Nat.zero_le _, rfl, (by have := hm s d _ s1 hst; rw [szX] at hB; rw [List.drop_zero]; omega), hI1, hK2, rfl⟩ ?_
   rintro mm S ⟨i, s', H', rfl, hi, hwl, hB', hI', hK', rfl⟩
   have hC' := hC.keep hK'
   unfold zq7
   repeat (first | refine za7 ?_ | refine za0 rfl ?_)
   refine zam rfl rfl rfl (fun h1 => ?_) fun h1 => ?_
   ·have hlt : i < args.length := by
     have := of_decide_eq_true h1
     rw [zao] at this
     omega
    have hd : args.drop i = args[i] :: args.drop (i + 1) := List.drop_eq_getElem_cons hlt
    rw [hd] at hwl hB'
    rw [szL] at hB'
    have hszq := zbh (args.drop (i + 1))
    have hszy := zd6 args[i]
    have hge := ze2 hlt
    have hmem : args[i] ∈ args := List.getElem_mem hlt
    generalize args[i] = y at hwl hge hmem hB' hszy
    obtain ⟨yo, yi, ya⟩ := y
    repeat (first | refine za7 ?_ | refine za0 rfl ?_ | refine za4 ?_ | refine za5 ?_ | refine zat ?_ | refine zaf ?_ | refine zbl rfl ?_)
    refine zff rfl rfl (Int.natCast_nonneg i) hge rfl ?_
    repeat (first | refine zan rfl rfl rfl rfl ?_ | refine zca ?_)
    refine zay rfl rfl rfl rfl zau rfl rfl ?_
    rw [zde]
    repeat (first | refine za7 ?_ | refine za0 rfl ?_ | refine za4 ?_ | refine za5 ?_ | refine za3 rfl ?_)
    refine zam rfl rfl rfl (fun h2 => ?_) fun h2 => ?_
    ·have hd1 : d ≤ 16 := of_decide_eq_true h2
     repeat (first | refine zcb rfl ?_ | refine za3 rfl ?_)
     refine zbs rfl ((zax hC'.lb).trans hC'.hb) (Nat.lt_succ_of_lt hC'.lb) rfl ?_
     repeat (first | refine zcb rfl ?_)
     refine zfg rfl zau (Nat.lt_succ_self _) rfl rfl ?_
     repeat (first | refine zcb rfl ?_ | refine za3 rfl ?_ | refine zdm (op := .add) rfl rfl rfl ?_)
     rw [show IntKind.wrap .i64 (d + 1) = d + 1 from wrap_small _ (by omega) (by omega)]
     refine o_ct _ rfl rfl (ct_fn (ih (.nd yo yi ya) (d + 1) ⟨_, _, _⟩ s' (by have := ziu (op := op) (ix := ix) hmem; omega) (hsl _ hmem) (by omega) (by omega) (hloc.new hI' _ _) (hC'.keep (Keep.new M H' _)) (by omega))) (fun _ _ _ _ hm => absurd hm List.not_mem_nil) fun v H3 hF3 => ?_
     obtain ⟨hK3, hF3⟩ := hF3
     have hK4 : Keep M H H3 := hK'.trans ((Keep.new M H' _).trans hK3)
     cases hwk : zc7 step (d + 1) (.nd yo yi ya) s' with
     | inr t =>
      rw [hwk] at hF3
      obtain ⟨rfl, hJ⟩ := hF3
      repeat (first | refine za7 ?_ | refine za0 rfl ?_ | refine za4 ?_ | refine za5 ?_ | refine zbl rfl ?_ | refine zae ?_ | refine za8 ?_ | refine zb5 ?_ | refine zcb rfl ?_ | refine za3 rfl ?_ | refine zah rfl rfl ?_ | refine zi3 rfl rfl ?_)
      refine zfm ?_
      repeat (first | refine za8 ?_ | refine zb5 ?_)
      refine zac ⟨.inr rfl, _, rfl, hK4, ?_⟩
      simp only [hwl, zc3, if_pos hd1, hwk]
      exact ⟨trivial, hJ⟩
     | inl s2 =>
      rw [hwk] at hF3
      obtain ⟨rfl, hI2⟩ := hF3
      repeat (first | refine za0 rfl ?_ | refine za4 ?_ | refine za5 ?_ | refine zcv ?_ | refine zaf ?_ | refine zc0 rfl ?_ | refine zcb rfl ?_ | refine za3 rfl ?_ | refine zah rfl rfl ?_ | refine zi3 rfl rfl ?_ | refine zdm (op := .add) rfl rfl rfl ?_)
      rw [zbj i (by omega)]
      exact zck (show args.length - (i + 1) < args.length - i by omega) (zaz (.cons rfl (.cons rfl (.cons rfl (.cons rfl (.cons rfl .nil)))))) ⟨i + 1, s2, H3, rfl, hlt, by rw [hwl]; simp only [zc3, if_pos hd1, hwk], by have := zt0 hm (.nd yo yi ya) (d + 1) s' s2 hwk; omega, hI2, hK4, rfl⟩
    ·have hd1 : ¬ d ≤ 16 := of_decide_eq_false h2
     repeat (first | refine za0 rfl ?_ | refine za4 ?_ | refine za5 ?_ | refine zcv ?_ | refine zaf ?_ | refine zc0 rfl ?_ | refine zeg rfl rfl ?_ | refine za3 rfl ?_ | refine zab rfl rfl ?_ | refine zdm (op := .add) rfl rfl rfl ?_)
     rw [zbj i (by omega)]
     exact zck (show args.length - (i + 1) < args.length - i by omega) (zaz (.cons rfl (.cons rfl (.cons rfl (.cons rfl (.cons rfl .nil)))))) ⟨i + 1, s', ⟨_, _, _⟩, rfl, hlt, by rw [hwl]; simp only [zc3, if_neg hd1], by omega, hloc.new hI' _ _, hK'.trans (Keep.new M H' _), rfl⟩
   ·have hi2 : i = args.length := by
     have := of_decide_eq_false h1
     rw [zao] at this
     omega
    repeat (first | refine za7 ?_ | refine za4 ?_ | refine za5 ?_ | refine zc0 rfl ?_ | refine zea ?_ | refine zbi ?_)
    refine zhz ?_
    repeat (first | refine za7 ?_ | refine za0 rfl ?_ | refine za4 ?_ | refine za5 ?_ | refine zae ?_ | refine ze9 ?_ | refine za3 rfl ?_)
    refine zac ⟨.inr rfl, _, rfl, hK', ?_⟩
    subst hi2
    simp only [hwl, List.drop_length, zc3]
    exact ⟨trivial, hI'⟩
theorem rangeB {w0 : World} {N0 id sp : Nat} (hloc : Local M I) {B : Int} {m : σ → Int} (hm : ∀ s d x s1, step s d x = .inl s1 → m s1 ≤ m s + 1) (hy : ∀ s d x H, m s + 1 ≤ B → I s H → CT Try.prog w0 N0 (.yield id sp) [.int .i64 d, .agg (cX x)] H (zph M I J H (step s d x))) (x : Ex) (H : HS) (s : σ) (hx : Slim x) (hI : I s H) (hB : m s + szX x ≤ B) :
  FT Try.prog w0 N0 90 [.yield id sp, .vptr (cX x)] H fun _ H' => Keep M H H' ∧ match zc7 step 1 x s with
   | .inl s' => I s' H'
   | .inr t => J t H' := by
 refine ziz env0_ok fn90 [(0, .yield id sp), (1, .vptr (cX x))] (by show 2 ≤ 8; decide) rfl ?_
 obtain ⟨op, ix, args⟩ := x
 unfold ic90
 repeat (first | refine za7 ?_ | refine za0 rfl ?_ | refine za4 ?_ | refine za5 ?_ | refine zca ?_ | refine zcu rfl rfl ?_ | refine zrx rfl rfl ?_)
 refine zay rfl rfl rfl rfl zau rfl rfl ?_
 rw [zde]
 repeat (first | refine za0 rfl ?_ | refine za4 ?_ | refine za5 ?_)
 refine zbs rfl zau (Nat.lt_succ_self _) rfl ?_
 repeat (first | refine zan rfl rfl rfl rfl ?_)
 have hlt := hloc.lt s H hI
 have hk0 : Keep M H ⟨(H.next + 1, H.clk + 1, .cells (setAt 0 [.nilf] [.fn 91 [] [.mptr H.next H.clk 0, .mptr (H.next + 1) (H.clk + 1) 0]])) :: (H.next, H.clk, .cells [.yield id sp]) :: H.heap, H.next + 1 + 1, H.clk + 1 + 1⟩ := (Keep.new M H (H.clk, .cells [.yield id sp])).trans (Keep.new M ⟨(H.next, H.clk, .cells [.yield id sp]) :: H.heap, H.next + 1, H.clk + 1⟩ (H.clk + 1, _))
 refine o_ct _ rfl rfl (ct_fn (visitB hloc hm hy (SizeOf.sizeOf (Ex.nd op ix args)) (.nd op ix args) 1 ⟨_, _, _⟩ s (Nat.le_refl _) hx (by decide) (by decide) (hloc.of s H ⟨_, _, _⟩ hI hk0.next fun i hm => (zax (Nat.lt_succ_of_lt (hlt i hm))).trans (zax (hlt i hm)))
  ⟨fun hm => Nat.lt_irrefl _ (hlt _ hm), fun hm => Nat.not_succ_lt_self (hlt _ hm), (zax (Nat.lt_succ_self _)).trans zau, zau, Nat.lt_succ_of_lt (Nat.lt_succ_self _), Nat.lt_succ_self _⟩ hB)) (fun _ _ _ _ hm => absurd hm List.not_mem_nil) fun v H2 hF => ?_
 obtain ⟨hK, hF⟩ := hF
 repeat (first | refine za4 ?_)
 refine zac ⟨.inl rfl, _, rfl, hk0.trans hK, ?_⟩
 cases hw : zc7 step 1 (.nd op ix args) s with
 | inl s' => rw [hw] at hF; exact hF.2
 | inr t => rw [hw] at hF; exact hF.2
end
end Go.Proofs.Ytmnkjofaodbokaa
namespace Go.Proofs
open Go.Shelf
def Try.lays189_ren : Go.Shelf.Ren := ⟨fun | 189 => 64 | 125 => 93 | 257 => 92 | 128 => 115 | 129 => 116 | 294 => 106 | 295 => 107 | 296 => 108 | 297 => 109 | 298 => 110 | 299 => 111 | 216 => 112 | 300 => 113 | 301 => 114 | 328 => 120 | 329 => 121 | 330 => 122 | 331 => 123 | 332 => 124 | 215 => 125 | 343 => 126 | n => n, fun | 28 => 61 | 3 => 3 | 46 => 137 | 0 => 0 | 51 => 151 | 53 => 43 | 4 => 4 | 183 => 143 | 182 => 142 | 131 => 148 | 5 => 5 | 9 => 9 | 218 => 155 | 222 => 159 | 228 => 162 | 229 => 163 | n => n, fun | n => n⟩
theorem Try.lays189 : Go.Proofs.Lays.n189 Try.prog Try.lays189_ren := {
 mixed := by kernel_rfl
 f125 := Try.func93.trans (congrArg some (by kernel_rfl))
 f128 := Try.func115.trans (congrArg some (by kernel_rfl))
 f129 := Try.func116.trans (congrArg some (by kernel_rfl))
 f189 := Try.func64.trans (congrArg some (by kernel_rfl))
 f215 := Try.func125.trans (congrArg some (by kernel_rfl))
 f216 := Try.func112.trans (congrArg some (by kernel_rfl))
 f257 := Try.func92.trans (congrArg some (by kernel_rfl))
 f294 := Try.func106.trans (congrArg some (by kernel_rfl))
 f295 := Try.func107.trans (congrArg some (by kernel_rfl))
 f296 := Try.func108.trans (congrArg some (by kernel_rfl))
 f297 := Try.func109.trans (congrArg some (by kernel_rfl))
 f298 := Try.func110.trans (congrArg some (by kernel_rfl))
 f299 := Try.func111.trans (congrArg some (by kernel_rfl))
 f300 := Try.func113.trans (congrArg some (by kernel_rfl))
 f301 := Try.func114.trans (congrArg some (by kernel_rfl))
 f328 := Try.func120.trans (congrArg some (by kernel_rfl))
 f329 := Try.func121.trans (congrArg some (by kernel_rfl))
 f330 := Try.func122.trans (congrArg some (by kernel_rfl))
 f331 := Try.func123.trans (congrArg some (by kernel_rfl))
 f332 := Try.func124.trans (congrArg some (by kernel_rfl))
 f343 := Try.func126.trans (congrArg some (by kernel_rfl))
 t0 := Try.underlying0
 a0 := Try.isAgg0
 z0 := Try.sizeOf0
 v0 := Try.zeroValue0
 t3 := Try.underlying3
 a3 := Try.isAgg3
 z3 := Try.sizeOf3
 v3 := Try.zeroValue3
 t4 := Try.underlying4
 a4 := Try.isAgg4
 z4 := Try.sizeOf4
 v4 := Try.zeroValue4
 t5 := Try.underlying5
 a5 := Try.isAgg5
 z5 := Try.sizeOf5
 v5 := Try.zeroValue5
 t9 := Try.underlying9
 a9 := Try.isAgg9
 z9 := Try.sizeOf9
 v9 := Try.zeroValue9
 t28 := Try.underlying61
 a28 := Try.isAgg61
 z28 := Try.sizeOf61
 v28 := Try.zeroValue61
 t46 := Try.underlying137
 a46 := Try.isAgg137
 z46 := Try.sizeOf137
 v46 := Try.zeroValue137
 t51 := Try.underlying151
 a51 := Try.isAgg151
 z51 := Try.sizeOf151
 v51 := Try.zeroValue151
 t53 := Try.underlying43
 a53 := Try.isAgg43
 z53 := Try.sizeOf43
 v53 := Try.zeroValue43
 t131 := Try.underlying148
 a131 := Try.isAgg148
 z131 := Try.sizeOf148
 v131 := Try.zeroValue148
 t182 := Try.underlying142
 a182 := Try.isAgg142
 z182 := Try.sizeOf142
 v182 := Try.zeroValue142
 t183 := Try.underlying143
 a183 := Try.isAgg143
 z183 := Try.sizeOf143
 v183 := Try.zeroValue143
 t218 := Try.underlying155
 a218 := Try.isAgg155
 z218 := Try.sizeOf155
 v218 := Try.zeroValue155
 t222 := Try.underlying159
 a222 := Try.isAgg159
 z222 := Try.sizeOf159
 v222 := Try.zeroValue159
 t228 := Try.underlying162
 a228 := Try.isAgg162
 z228 := Try.sizeOf162
 v228 := Try.zeroValue162
 t229 := Try.underlying163
 a229 := Try.isAgg163
 z229 := Try.sizeOf163
 v229 := Try.zeroValue163 }
open Go.Sort Go.RowKit in
theorem Try.slices_Sort_int (blk off cap : Nat) (zs : List Int) (w : World) (hH : Holds (Value.int .i64) w blk off zs.toArray) (hblk : blk < w.heap.size) (hsz : zs.length < 4611686018427387904) :
  Calls Try.prog 64 #[.slice (some ⟨blk, off, none⟩) zs.length cap] w fun e w' =>
   e = .returned (.tuple #[]) ∧ ∃ n os, w' = grow (putRow (Value.int .i64) (Sort.ahead w n) blk off (zs.mergeSort fun x y => decide (x ≤ y)).toArray) os := Any.slices_Sort_int Try.lays189 blk off cap zs w hH hblk hsz
def Try.laysNm220_ren : Go.Shelf.Ren := ⟨fun | 20 => 65 | n => n, fun | 22 => 61 | 3 => 3 | 4 => 4 | 0 => 0 | n => n, fun | n => n⟩
theorem Try.laysNm220 : Go.Proofs.Lays2.n20 Try.prog Try.laysNm220_ren := {
 mixed := by kernel_rfl
 f20 := Try.func65.trans (congrArg some (by kernel_rfl))
 t0 := Try.underlying0
 a0 := Try.isAgg0
 z0 := Try.sizeOf0
 v0 := Try.zeroValue0
 t3 := Try.underlying3
 a3 := Try.isAgg3
 z3 := Try.sizeOf3
 v3 := Try.zeroValue3
 t4 := Try.underlying4
 a4 := Try.isAgg4
 z4 := Try.sizeOf4
 v4 := Try.zeroValue4
 t22 := Try.underlying61
 a22 := Try.isAgg61
 z22 := Try.sizeOf61
 v22 := Try.zeroValue61
 i3 := by kernel_rfl }
open Go.RowKit Go.Lib Go.Sort in
theorem Try.slices_Compact_int (blk off cap : Nat) (zs : List Int) (w : World) (hH : Holds (Value.int .i64) w blk off zs.toArray) (hsz : zs.length ≤ 9223372036854775807) (hcap : zs.length ≤ cap) :
  Calls Try.prog 65 #[.slice (some ⟨blk, off, none⟩) zs.length cap] w fun e w' => e = .returned (.slice (some ⟨blk, off, none⟩) (Lib.compact zs).length cap) ∧ ∃ q, w' = putRow (Value.int .i64) (Sort.ahead w q) blk off (Lib.compact zs ++ List.replicate (zs.length - (Lib.compact zs).length) 0).toArray := Any.slices_Compact_int Try.laysNm220 blk off cap zs w hH hsz hcap
namespace Ytmnkjofaodbokaa
open Go Go.Am Go.RowKit
theorem ent64 : Ent Try.prog 64 := zqs Try.func64 rfl (by kernel_rfl)
theorem ent65 : Ent Try.prog 65 := zqs Try.func65 rfl (by kernel_rfl)
theorem sorts64 : Sorts Try.prog 64 := fun blk off cap zs w hH hb hz => Try.slices_Sort_int blk off cap zs w hH hb hz
theorem cpts65 : Cpts Try.prog 65 := fun blk off cap zs w hH hz hc => Try.slices_Compact_int blk off cap zs w hH hz hc
end Ytmnkjofaodbokaa
end Go.Proofs
