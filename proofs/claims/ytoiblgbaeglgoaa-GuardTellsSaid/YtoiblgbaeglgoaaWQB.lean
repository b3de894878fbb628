/-
  R10, R11, R12, R13, R14, R15, R16, R17 in one text.
-/
import Derived.Test.YtoiblgbaeglgoaaWQA
namespace Go.Proofs.Ytoiblgbaeglgoaa
open Go Go.Am
mutual
def szX : Ex → Int
 | .nd _ _ args => 1 + szL args
def szL : List Ex → Int
 | [] => 0
 | y :: ys => szX y + szL ys
end
mutual
theorem zju : ∀ x : Ex, 1 ≤ szX x
 | .nd op ix args => by
  rw [szX]
  have := zdp args
  omega
theorem zdp : ∀ l : List Ex, 0 ≤ szL l
 | [] => by rw [szL]; exact Int.le_refl _
 | y :: ys => by
  rw [szL]
  have := zju y
  have := zdp ys
  omega
end
theorem zkf : ∀ l : List Ex, (l.length : Int) ≤ szL l
 | [] => by rw [szL]; exact Int.le_refl _
 | y :: ys => by
  rw [szL, List.length_cons]
  have := zju y
  have := zkf ys
  omega
mutual
theorem zvq : ∀ x : Ex, szX x ≤ 256 → Thin x
 | .nd op ix args => fun h => by
  rw [szX] at h
  have := zkf args
  exact .nd (by omega) (zr3 args (by omega))
theorem zr3 : ∀ l : List Ex, szL l ≤ 256 → ∀ y ∈ l, Thin y
 | [] => fun _ y hy => absurd hy List.not_mem_nil
 | x :: xs => fun h y hy => by
  rw [szL] at h
  have h1 := zju x
  have h2 := zdp xs
  rcases List.mem_cons.1 hy with he | hm
  ·rw [he]
   exact zvq x (by omega)
  ·exact zr3 xs (by omega) y hm
end
mutual
theorem cnt_eq (most : Int) (h : 0 ≤ most) : ∀ x : Ex, cnt most x = if szX x ≤ most then szX x else most + 1
 | .nd op ix args => by
  rw [cnt, szX]
  exact ztd most h 1 (by omega) (by omega) args
theorem ztd (most : Int) (h : 0 ≤ most) (n : Int) (h1 : 1 ≤ n) (h2 : n ≤ most + 1) : ∀ l : List Ex, zob most n l = if n + szL l ≤ most then n + szL l else most + 1
 | [] => by
  rw [zob, szL]
  split <;> omega
 | y :: ys => by
  rw [zob, szL]
  have hy := zju y
  have hys := zdp ys
  split
  ·have e := cnt_eq (most - n) (by omega) y
   have b := zk5 (most - n) (by omega) y
   rw [ztd most h _ (by omega) (by omega) ys]
   split at e <;> rw [e] <;> (repeat' split) <;> omega
  ·rw [if_neg (by omega)]
   omega
end
theorem zk7 (m : Nat) (op ix : Int) (args : List Ex) : zdr (m + 1) (.nd op ix args) = args.all (zdr m) := by
 rw [zdr]
 split
 ·rename_i h
  subst h
  cases args with
  | nil => rfl
  | cons a l => simp [zdr]
 ·rfl
def ze6 (x : Ex) : Bool := decide (cnt 256 x ≤ 256) && zdr 16 x
theorem zgo (x : Ex) : ze6 x = true ↔ szX x ≤ 256 ∧ zdr 16 x = true := by
 unfold ze6
 rw [Bool.and_eq_true, decide_eq_true_iff, cnt_eq 256 (by omega)]
 constructor
 ·intro ⟨a, b⟩
  refine ⟨?_, b⟩
  split at a <;> omega
 ·intro ⟨a, b⟩
  exact ⟨by rw [if_pos a]; exact a, b⟩
mutual
theorem walkM : ∀ (x : Ex) (d n m : Int), 1 ≤ d → d ≤ 17 → 0 ≤ n → n ≤ 256 →
  if n + szX x ≤ 256 ∧ zdr (17 - d).toNat x = true then ∃ m', zf8 zh3 d x (n, m) = .inl (n + szX x, m') else zf8 zh3 d x (n, m) = .inr ()
 | .nd op ix args => fun d n m hd h17 h0 hn => by
  rw [zf8, szX]
  unfold zh3
  have hs0 := zdp args
  by_cases hs : n + 1 > 256 ∨ d > 16
  ·rw [if_pos hs, if_neg]
   intro ⟨a, b⟩
   rcases hs with hs | hs
   ·omega
   ·rw [show (17 - d).toNat = 0 by omega] at b
    simp [zdr] at b
  ·rw [if_neg hs, show (17 - d).toNat = (16 - d).toNat + 1 by omega, zk7, ← Int.add_assoc]
   exact walkLM args d (n + 1) (deepM m d) hd (by omega) (by omega) (by omega)
theorem walkLM : ∀ (l : List Ex) (d n m : Int), 1 ≤ d → d ≤ 16 → 0 ≤ n → n ≤ 256 →
  if n + szL l ≤ 256 ∧ l.all (zdr (16 - d).toNat) = true then ∃ m', zfy zh3 d l (n, m) = .inl (n + szL l, m') else zfy zh3 d l (n, m) = .inr ()
 | [] => fun d n m hd h16 h0 hn => by
  rw [szL, zfy, if_pos ⟨by omega, rfl⟩, Int.add_zero]
  exact ⟨m, rfl⟩
 | y :: ys => fun d n m hd h16 h0 hn => by
  have hy := walkM y (d + 1) n m (by omega) (by omega) h0 hn
  rw [zfy, if_pos h16, szL]
  rw [show (17 - (d + 1)).toNat = (16 - d).toNat by omega] at hy
  have hp := zju y
  have hq := zdp ys
  by_cases hc : n + szX y ≤ 256 ∧ zdr (16 - d).toNat y = true
  ·rw [if_pos hc] at hy
   obtain ⟨m', hy⟩ := hy
   rw [hy, List.all_cons, hc.2, Bool.true_and, ← Int.add_assoc]
   exact walkLM ys d (n + szX y) m' hd h16 (by omega) hc.1
  ·rw [if_neg hc] at hy
   rw [hy, if_neg]
   intro ⟨a, b⟩
   rw [List.all_cons, Bool.and_eq_true] at b
   exact hc ⟨by omega, b.1⟩
end
mutual
theorem walkC (z : Int) : ∀ (x : Ex) (d : Int), 1 ≤ d → d ≤ 17 → zdr (17 - d).toNat x = true → zf8 (znt z) d x () = if nds z x = 0 then .inl () else .inr (nds z x)
 | .nd op ix args => fun d hd h17 hb => by
  have h16 : d ≤ 16 := by
   by_cases h : d ≤ 16
   ·exact h
   ·rw [show (17 - d).toNat = 0 by omega] at hb
    simp [zdr] at hb
  rw [show (17 - d).toNat = (16 - d).toNat + 1 by omega, zk7] at hb
  rw [zf8, nds]
  unfold znt zuq
  by_cases h : zba op ix args.length z = 0
  ·simp only [if_pos h]
   exact walkLC z args d hd h16 hb
  ·simp only [if_neg h]
theorem walkLC (z : Int) : ∀ (l : List Ex) (d : Int), 1 ≤ d → d ≤ 16 → l.all (zdr (16 - d).toNat) = true → zfy (znt z) d l () = if zs4 z l = 0 then .inl () else .inr (zs4 z l)
 | [] => fun d hd h16 hb => by rw [zfy, zs4, if_pos rfl]
 | y :: ys => fun d hd h16 hb => by
  rw [List.all_cons, Bool.and_eq_true] at hb
  have hy := walkC z y (d + 1) (by omega) (by omega) (by rw [show (17 - (d + 1)).toNat = (16 - d).toNat by omega]; exact hb.1)
  rw [zfy, if_pos h16, hy, zs4]
  by_cases h : nds z y = 0
  ·simp only [if_pos h]
   exact walkLC z ys d hd h16 hb.2
  ·simp only [if_neg h]
end
def zd3 (x : Ex) (n : Int) : Int := if n < 0 ∨ n > 256 then 2 else if ze6 x = true then nds n x else 5
theorem zpx (x : Ex) (n : Int) : zk4 x n = zd3 x n := by
 unfold zk4 zd3
 split
 ·rfl
 ·have hw := walkM x 1 0 0 (by omega) (by omega) (by omega) (by omega)
  rw [Int.zero_add, show ((17 : Int) - 1).toNat = 16 from rfl] at hw
  by_cases hl : ze6 x = true
  ·rw [if_pos ((zgo x).1 hl)] at hw
   obtain ⟨m', hw⟩ := hw
   rw [hw, if_pos hl]
   dsimp only
   rw [walkC n x 1 (by omega) (by omega) ((zgo x).1 hl).2]
   by_cases h : nds n x = 0
   ·rw [if_pos h]; exact h.symm
   ·rw [if_neg h]
  ·rw [if_neg (fun h => hl ((zgo x).2 h))] at hw
   rw [hw, if_neg hl]
-- pneumatic/pneumaticref05.Light
def ic74 : IC := .seq (.region [⟨(some 1), .box (.t 0), none⟩,
  ⟨(some 2), .mov (.c (.bool false)), none⟩] none)
 (.seq (.region [⟨(some 3), .load (some 3) (.t 1), none⟩,
  ⟨(some 4), .call (.c (.fn 123 [] [])) [(.t 3), (.c (.int .i64 256))], none⟩,
  ⟨(some 5), .bin .leq (.t 4) (.c (.int .i64 256)), none⟩,
  ⟨(some 6), .mov (.t 5), none⟩,
  ⟨(some 7), .load (some 3) (.t 1), some (6, true)⟩,
  ⟨(some 8), .call (.c (.fn 124 [] [])) [(.t 7), (.c (.int .i64 16))], some (6, true)⟩,
  ⟨(some 9), .pick (.t 6) (.t 8) (.c (.bool false)), none⟩,
  ⟨(some 2), .mov (.t 9), none⟩] none)
 (.ret))
theorem fn74 : env0.fn 74 = some ⟨10, ic74, [.t 2]⟩ := by kernel_rfl
theorem zul (x : Ex) (hs : Slim x) : PF Try.prog 74 [.agg (cX x)] (.bool (ze6 x)) := by
 have h72 := count72 _ x 256 (Nat.le_refl _) hs (by decide) (by decide)
 have h73 := deep73 16 x 16 rfl (by decide) hs
 have hl : ze6 x = (decide (cnt 256 x ≤ 256) && zdr 16 x) := rfl
 rw [hl]
 obtain ⟨op, ix, args⟩ := x
 refine zb1 env0_ok fn74 [(0, .agg (cX (.nd op ix args)))] (by show 1 ≤ 10; decide) rfl fun w0 N0 => ?_
 unfold ic74
 repeat (first | refine za5 ?_ | refine za0 rfl ?_ | refine za4 ?_ | refine za2 ?_ | refine za3 rfl ?_ | refine zaw rfl rfl rfl rfl ?_ | refine zcq rfl rfl ?_)
 refine zas rfl rfl h72 (fun h => Bool.noConfusion (show false = true from h)) ?_
 refine zak rfl rfl rfl (fun h1 => ?_) fun h1 => ?_
 ·rw [h1, Bool.true_and]
  repeat (first | refine zc8 rfl ?_ | refine za3 rfl ?_ | refine zaw rfl rfl rfl rfl ?_)
  refine zas rfl rfl h73 (fun h => Bool.noConfusion (show false = true from h)) ?_
  repeat (first | refine za4 ?_ | refine za2 ?_ | refine zaf ?_ | refine za3 rfl ?_ | refine zai rfl rfl ?_)
  exact zad ⟨.inr rfl, _, rfl, rfl⟩
 ·rw [h1, Bool.false_and]
  repeat (first | refine za4 ?_ | refine za2 ?_ | refine zaf ?_ | refine zdv rfl rfl ?_ | refine za3 rfl ?_ | refine zac rfl rfl ?_)
  exact zad ⟨.inr rfl, _, rfl, rfl⟩
-- pneumatic/pneumaticref05.Check
def ic116 : IC := .seq (.region [⟨(some 2), .box (.t 0), none⟩,
  ⟨(some 4), .mov (.c (.int .i64 0)), none⟩] none)
 (.seq (.seq (.region [⟨(some 5), .mov (.t 1), none⟩,
  ⟨(some 6), .bin .lss (.t 5) (.c (.int .i64 0)), none⟩,
  ⟨(some 7), .mov (.t 6), none⟩,
  ⟨(some 8), .mov (.t 1), some (7, false)⟩,
  ⟨(some 9), .bin .gtr (.t 8) (.c (.int .i64 256)), some (7, false)⟩,
  ⟨(some 10), .pick (.t 7) (.c (.bool true)) (.t 9), none⟩] none)
 (.cond (.t 10) (.seq (.region [⟨(some 4), .mov (.c (.int .i64 2)), none⟩] none)
 (.ret))
 (.skip)))
 (.seq (.seq (.region [⟨(some 11), .load (some 3) (.t 2), none⟩,
  ⟨(some 12), .call (.c (.fn 74 [] [])) [(.t 11)], none⟩,
  ⟨(some 13), .un .not (.t 12), none⟩] none)
 (.cond (.t 13) (.seq (.region [⟨(some 4), .mov (.c (.int .i64 5)), none⟩] none)
 (.ret))
 (.skip)))
 (.seq (.region [⟨(some 14), .load (some 3) (.t 2), none⟩,
  ⟨(some 15), .mov (.t 1), none⟩,
  ⟨(some 16), .call (.c (.fn 147 [] [])) [(.t 14), (.t 15)], none⟩,
  ⟨(some 4), .mov (.t 16), none⟩] none)
 (.ret))))
theorem fn116 : env0.fn 116 = some ⟨17, ic116, [.t 4]⟩ := by kernel_rfl
theorem check60 (x : Ex) (hs : Slim x) (n : Int) : PF Try.prog 116 [.agg (cX x), .int .i64 n] (.int .i64 (zd3 x n)) := by
 have h47 := zul x hs
 have h89 : ze6 x = true → PF Try.prog 147 [.agg (cX x), .int .i64 n] (.int .i64 (nds n x)) := fun h => nodes89 n _ x (Nat.le_refl _) (zvq x ((zgo x).1 h).1)
 obtain ⟨op, ix, args⟩ := x
 refine zb1 env0_ok fn116 [(0, .agg (cX (.nd op ix args))), (1, .int .i64 n)] (by show 2 ≤ 17; decide) rfl fun w0 N0 => ?_
 unfold ic116 zd3
 repeat (first | refine za5 ?_ | refine za0 rfl ?_ | refine za4 ?_ | refine za2 ?_ | refine za3 rfl ?_ | refine zcq rfl rfl ?_)
 refine zak rfl rfl rfl (fun h1 => ?_) fun h1 => ?_
 ·rw [if_pos (.inl (of_decide_eq_true h1))]
  repeat (first | refine za5 ?_ | refine za0 rfl ?_ | refine za4 ?_ | refine za2 ?_ | refine zb6 rfl ?_ | refine zaf ?_ | refine za6 ?_ | refine zdv rfl rfl ?_ | refine za3 rfl ?_ | refine zai rfl rfl ?_)
  exact zad ⟨.inr rfl, _, rfl, rfl⟩
 repeat (first | refine zc8 rfl ?_ | refine za3 rfl ?_)
 refine zak rfl rfl rfl (fun h2 => ?_) fun h2 => ?_
 ·rw [if_pos (.inr (of_decide_eq_true h2))]
  repeat (first | refine za5 ?_ | refine za0 rfl ?_ | refine za4 ?_ | refine za2 ?_ | refine zb6 rfl ?_ | refine zaf ?_ | refine za6 ?_ | refine za3 rfl ?_ | refine zac rfl rfl ?_)
  exact zad ⟨.inr rfl, _, rfl, rfl⟩
 rw [if_neg (fun h => h.elim (of_decide_eq_false h1) (of_decide_eq_false h2))]
 repeat (first | refine za5 ?_ | refine za0 rfl ?_ | refine za4 ?_ | refine za2 ?_ | refine zab ?_ | refine zbi rfl ?_ | refine zaw rfl rfl rfl rfl ?_ | refine zac rfl rfl ?_)
 cases hl : ze6 (.nd op ix args) with
 | true =>
  rw [hl] at h47
  rw [if_pos rfl]
  refine zas rfl rfl h47 (fun h => Bool.noConfusion (show false = true from h)) ?_
  repeat (first | refine za5 ?_ | refine za0 rfl ?_ | refine za4 ?_ | refine za2 ?_ | refine zab ?_ | refine zbi rfl ?_ | refine za3 rfl ?_ | refine zaw rfl rfl rfl rfl ?_ | refine zi1 rfl rfl ?_)
  refine zas rfl rfl (h89 hl) (fun h => Bool.noConfusion (show false = true from h)) ?_
  repeat (first | refine za4 ?_ | refine za2 ?_ | refine zaf ?_ | refine za3 rfl ?_)
  exact zad ⟨.inr rfl, _, rfl, rfl⟩
 | false =>
  rw [hl] at h47
  rw [if_neg (by simp)]
  refine zas rfl rfl h47 (fun h => Bool.noConfusion (show false = true from h)) ?_
  repeat (first | refine za5 ?_ | refine za0 rfl ?_ | refine za4 ?_ | refine za2 ?_ | refine zb6 rfl ?_ | refine zaf ?_ | refine za6 ?_ | refine za3 rfl ?_ | refine zi1 rfl rfl ?_)
  exact zad ⟨.inr rfl, _, rfl, rfl⟩
end Go.Proofs.Ytoiblgbaeglgoaa
namespace Go.Proofs.Ytoiblgbaeglgoaa
open Go Go.Am
mutual
def zcn (v : List Bool) : Ex → Bool
 | .nd op ix args => if op = 0 then ix == 1 else if op = 1 then v.getD ix.toNat false else if op = 2 then !(zhd v args).headD false else if op = 3 then (zhd v args).all id else (zhd v args).any id
def zhd (v : List Bool) : List Ex → List Bool
 | [] => []
 | y :: ys => zcn v y :: zhd v ys
end
theorem zlm (v : List Bool) : ∀ l : List Ex, zhd v l = l.map (zcn v)
 | [] => by simp [zhd]
 | y :: ys => by simp [zhd, zlm v ys]
def vsB (v : List Bool) : AV := .vs (v.map fun b => [.bool b])
theorem nds_args {n op ix : Int} {args : List Ex} (h : nds n (.nd op ix args) = 0) : zba op ix args.length n = 0 ∧ ∀ y ∈ args, nds n y = 0 := by
 rw [nds] at h
 split at h
 ·rename_i h1
  refine ⟨h1, ?_⟩
  clear h1
  induction args with
  | nil => exact fun _ hy => absurd hy List.not_mem_nil
  | cons y ys ih =>
   rw [zs4] at h
   split at h
   ·rename_i h2
    intro z hz
    rcases List.mem_cons.1 hz with rfl | hm
    ·exact h2
    ·exact ih h z hm
   ·rename_i h2; exact absurd h h2
 ·rename_i h1; exact absurd h h1
theorem nodeV_ok {op ix k n : Int} (h : zba op ix k n = 0) : 0 ≤ op ∧ op < 5 ∧ zb0 op ≤ k ∧ k ≤ zbp op ∧ 0 ≤ ix ∧ ix ≤ zbs op n := by
 unfold zba at h
 split at h
 ·exact absurd h (by decide)
 ·split at h
  ·exact absurd h (by decide)
  ·split at h
   ·exact absurd h (by decide)
   ·omega
theorem vs_get (v : List Bool) (i : Nat) (h : i < v.length) : (v.map fun b => ([.bool b] : List AV))[i]? = some [.bool (v.getD i false)] := by
 rw [List.getElem?_map, List.getElem?_eq_getElem h, List.getD_eq_getElem?_getD, List.getElem?_eq_getElem h]
 rfl
end Go.Proofs.Ytoiblgbaeglgoaa
namespace Go.Proofs.Ytoiblgbaeglgoaa
open Go Go.Am
def zt4 : IC := .seq (.region [⟨(some 10), .bin .lss (.t 9) (.t 8), none⟩] none)
 (.seq (.cond (.t 10) (.skip)
 (.exit 0))
 (.seq (.block 1 (.seq (.region [⟨(some 11), .idxs 3 (.t 7) (.t 9), none⟩,
  ⟨(some 12), .load (some 3) (.t 11), none⟩,
  ⟨(some 5), .alloc [.int .i64 0, .int .i64 0, .nils], none⟩,
  ⟨none, .store 3 (.t 5) (.t 12), none⟩] none)
 (.seq (.region [⟨(some 13), .mov (.t 0), none⟩,
  ⟨(some 14), .load (some 3) (.t 5), none⟩,
  ⟨(some 15), .load none (.t 2), none⟩,
  ⟨(some 16), .call (.c (.fn 158 [] [])) [(.t 14), (.t 15)], none⟩,
  ⟨(some 17), .call (.t 13) [(.t 16)], none⟩,
  ⟨(some 18), .un .not (.t 17), none⟩] none)
 (.cond (.t 18) (.ret)
 (.skip)))))
 (.region [⟨(some 19), .bin .add (.t 9) (.c (.int .i64 1)), none⟩,
  ⟨(some 9), .mov (.t 19), none⟩] none)))
-- pneumatic/boolexp.eval$1
def ic168 : IC := .seq (.region [⟨(some 6), .faddr 2 (.t 1), none⟩,
  ⟨(some 7), .load none (.t 6), none⟩,
  ⟨(some 8), .len false (.t 7), none⟩,
  ⟨(some 9), .mov (.c (.int .i64 0)), none⟩] none)
 (.block 0 (.loop zt4))
theorem fn168 : env0.fn 168 = some ⟨20, ic168, []⟩ := by kernel_rfl
def tabE : Tab := [
 (171, [
  ([.bool false], .fn 174 [] [.vptr [.bool false]]),
  ([.bool true], .fn 174 [] [.vptr [.bool true]])])]
theorem tabE_ok : TabOk Try.prog tabE := TabOk.of_run (env0_ok.tab TabOk.nil (pure := [])) (n := 60) (by kernel_rfl)
theorem every111 : PF Try.prog 171 [.bool false] (.fn 174 [] [.vptr [.bool false]]) := tabE_ok _ (List.mem_cons_self ..) _ (List.mem_cons_self ..)
section
variable {σ τ : Type} {step : σ → Bool → σ ⊕ τ} {M : Nat → Prop} {I : σ → HS → Prop} {J : τ → HS → Prop}
def zlg (step : σ → Bool → σ ⊕ τ) : List Bool → σ → σ ⊕ τ
 | [], s => .inl s
 | b :: l, s => match step s b with
  | .inl s' => zlg step l s'
  | .inr t => .inr t
set_option maxHeartbeats 2000000 in
theorem seq110 {w0 : World} {N0 id sp : Nat} (v : List Bool) (op ix : Int) (args : List Ex) (hlen : args.length ≤ 256) (hev : ∀ y ∈ args, PF Try.prog 158 [.agg (cX y), vsB v] (.bool (zcn v y))) (hloc : Local M I) (hy : ∀ s b H, I s H → CT Try.prog w0 N0 (.yield id sp) [.bool b] H (zs7 M I J H (step s b))) (H : HS) (s : σ) (hI : I s H) :
  FT Try.prog w0 N0 168 [.yield id sp, .vptr (cX (.nd op ix args)), .vptr [vsB v]] H fun _ H' => Keep M H H' ∧ match zlg step (args.map (zcn v)) s with
   | .inl s' => I s' H'
   | .inr t => J t H' := by
 refine zh7 env0_ok fn168 [(0, .yield id sp), (1, .vptr (cX (.nd op ix args))), (2, .vptr [vsB v])] (by show 3 ≤ 20; decide) rfl ?_
 unfold ic168
 repeat (first | refine za5 ?_ | refine za0 rfl ?_ | refine za4 ?_ | refine za2 ?_ | refine zae ?_ | refine za3 rfl ?_ | refine zag rfl rfl ?_ | refine zfs rfl rfl rfl ?_ | refine zbk rfl rfl ?_)
 refine zcj (fun m S => ∃ i s' H', m = args.length - i ∧ i ≤ args.length ∧ zlg step (args.map (zcn v)) s = zlg step ((args.drop i).map (zcn v)) s' ∧ I s' H' ∧ Keep M H H' ∧
   S = st 20 [(0, .yield id sp), (2, .vptr [vsB v]), (7, .vs (cXs args)), (8, .int .i64 (cXs args).length), (9, .int .i64 (i : Nat))] H'.heap H'.next H'.clk) args.length
  (zam (.cons rfl (.cons rfl (.cons rfl (.cons rfl (.cons rfl .nil)))))) ⟨0, s, H, rfl, Nat.zero_le _, rfl, hI, Keep.refl M H, rfl⟩ ?_
 rintro m S ⟨i, s', H', rfl, hi, hwl, hI', hK', rfl⟩
 unfold zt4
 repeat (first | refine za5 ?_ | refine za0 rfl ?_)
 refine zak rfl rfl rfl (fun h1 => ?_) fun h1 => ?_
 ·have hlt : i < args.length := by
   have := of_decide_eq_true h1
   rw [zaj] at this
   omega
  have hd : args.drop i = args[i] :: args.drop (i + 1) := List.drop_eq_getElem_cons hlt
  rw [hd, List.map_cons] at hwl
  have hge := zee hlt
  have hmem : args[i] ∈ args := List.getElem_mem hlt
  generalize args[i] = y at hwl hge hmem
  have hevy := hev y hmem
  obtain ⟨yo, yi, ya⟩ := y
  repeat (first | refine za5 ?_ | refine za0 rfl ?_ | refine za4 ?_ | refine za2 ?_ | refine zae ?_ | refine zab ?_ | refine zb6 rfl ?_)
  refine zc2 rfl rfl (Int.natCast_nonneg i) hge rfl ?_
  repeat (first | refine zaw rfl rfl rfl rfl ?_ | refine zbl ?_)
  refine zap rfl rfl rfl rfl zbf rfl rfl ?_
  rw [ze9]
  repeat (first | refine za5 ?_ | refine za0 rfl ?_ | refine za4 ?_ | refine za2 ?_ | refine za3 rfl ?_)
  refine ze8 rfl zbf (Nat.lt_succ_self _) rfl rfl ?_
  repeat (first | refine zag rfl rfl ?_)
  refine zas rfl rfl hevy (fun h => Bool.noConfusion (show false = true from h)) ?_
  refine o_ct _ rfl rfl (hy s' (zcn v (.nd yo yi ya)) ⟨_, _, _⟩ (hloc.new hI' _ _)) (fun _ _ _ _ hm => absurd hm List.not_mem_nil) fun v2 H3 hF3 => ?_
  obtain ⟨hK3, hF3⟩ := hF3
  have hK4 : Keep M H H3 := hK'.trans ((Keep.new M H' _).trans hK3)
  cases hst : step s' (zcn v (.nd yo yi ya)) with
  | inr t =>
   rw [hst] at hF3
   obtain ⟨rfl, hJ⟩ := hF3
   repeat (first | refine za4 ?_ | refine za2 ?_ | refine zb6 rfl ?_ | refine zaf ?_ | refine za6 ?_ | refine zah ?_ | refine zi1 rfl rfl ?_)
   refine zbq ?_
   repeat (first | refine zah ?_)
   refine zad ⟨.inr rfl, _, rfl, hK4, ?_⟩
   simp only [hwl, zlg, hst]
   exact hJ
  | inl s2 =>
   rw [hst] at hF3
   obtain ⟨rfl, hI2⟩ := hF3
   repeat (first | refine za0 rfl ?_ | refine za4 ?_ | refine za2 ?_ | refine zbe ?_ | refine zab ?_ | refine zbi rfl ?_ | refine za3 rfl ?_ | refine zi1 rfl rfl ?_ | refine zao (op := .add) rfl rfl rfl ?_)
   rw [zb2 i (by omega)]
   exact zaz (show args.length - (i + 1) < args.length - i by omega) (zam (.cons rfl (.cons rfl (.cons rfl (.cons rfl (.cons rfl .nil)))))) ⟨i + 1, s2, H3, rfl, hlt, by rw [hwl]; simp only [zlg, hst], hI2, hK4, rfl⟩
 ·have hi2 : i = args.length := by
   have := of_decide_eq_false h1
   rw [zaj] at this
   omega
  repeat (first | refine za5 ?_ | refine za4 ?_ | refine za2 ?_ | refine zbi rfl ?_ | refine zc0 ?_ | refine zan ?_)
  refine zdk ?_
  repeat (first | refine zby ?_)
  refine zad ⟨.inl rfl, _, rfl, hK', ?_⟩
  subst hi2
  rw [List.drop_length] at hwl
  simp only [hwl, List.map_nil, zlg]
  exact hI'
end
noncomputable def zrb : Code := match env0.fn 174 with
 | some i => ((zc4 i.ic).headD (.skip, .skip)).1
 | none => .skip
noncomputable def zrf : Code := match env0.fn 174 with
 | some i => ((zc4 i.ic).headD (.skip, .skip)).2
 | none => .skip
def zsq : IC := .region [⟨(some 4), .mov (.t 6), none⟩] none
def zo6 : IC := .block 1 (.seq (.region [⟨(some 7), .mov (.t 4), none⟩,
  ⟨(some 8), .load none (.t 1), none⟩,
  ⟨(some 9), .eqb true (.t 7) (.t 8), none⟩] none)
 (.cond (.t 9) (.seq (.region [⟨none, .store 1 (.t 3) (.c (.bool false)), none⟩] none)
 (.ret))
 (.skip)))
-- pneumatic/boolexp.every$1
noncomputable def ic174 : IC := .seq (.region [⟨(some 3), .alloc [.bool false], none⟩] none)
 (.seq (.seq (.region [⟨(some 5), .mov (.t 0), none⟩] none)
 (.block 0 (.rangeFunc (.t 5) [6] zrb zrf zsq zo6)))
 (.seq (.region [⟨none, .store 1 (.t 3) (.c (.bool true)), none⟩] none)
 (.ret)))
theorem fn174 : env0.fn 174 = some ⟨10, ic174, [.cell 3 none]⟩ := by kernel_rfl
def stepE (b : Bool) (_ : Unit) (r : Bool) : Unit ⊕ Unit := if r = b then .inl () else .inr ()
theorem foldE (b : Bool) : ∀ l : List Bool, zlg (stepE b) l () = if l.all (· == b) = true then .inl () else .inr ()
 | [] => rfl
 | r :: l => by
  rw [zlg, List.all_cons]
  unfold stepE
  cases r <;> cases b <;> first | exact foldE _ l | rfl
structure I115 (ltm : List (Nat × AV)) (_ : Unit) (H : HS) : Prop where
 nx : 3 ≤ H.next
 h2 : Am.look 2 H.heap = some (2, .loop .ready none 10 (zd5 ltm) [6] zrb zrf (1, 1))
 h1 : Am.look 1 H.heap = some (1, .deferred)
 h0 : Am.look 0 H.heap = some (0, .cells [.bool false])
structure J115 (_ : Unit) (H : HS) : Prop where
 nx : 3 ≤ H.next
 h2 : ∃ tm, Am.look 2 H.heap = some (2, .loop .done (some .ret) 10 tm [6] zrb zrf (1, 1))
 h1 : Am.look 1 H.heap = some (1, .deferred)
 h0 : Am.look 0 H.heap = some (0, .cells [.bool false])
theorem local115 (ltm : List (Nat × AV)) : Local (fun i => i < 3) (I115 ltm) :=
 ⟨fun s H h i hi => Nat.lt_of_lt_of_le hi h.nx, fun s H H' h hn hl =>
  ⟨Nat.le_trans h.nx hn, (hl 2 (by decide)).trans h.h2, (hl 1 (by decide)).trans h.h1, (hl 0 (by decide)).trans h.h0⟩⟩
set_option maxHeartbeats 2000000 in
theorem yield115 {w0 : World} {N0 : Nat} (ltm : List (Nat × AV)) (b : Bool) (g1 : zbb (.t 1) ltm = some (.vptr [.bool b])) (g3 : zbb (.t 3) ltm = some (.mptr 0 0 0)) (ha : Com Try.prog zrb zsq) (hb : Com Try.prog zrf zo6) (s : Unit) (r : Bool) (H : HS) (h : I115 ltm s H) :
  CT Try.prog w0 N0 (.yield 2 2) [.bool r] H (zs7 (fun i => i < 3) (I115 ltm) J115 H (stepE b s r)) := by
 obtain ⟨nx, h2, h1, h0⟩ := h
 refine zla (l0 := (6, .bool r) :: ltm) h2 ha hb rfl (by decide) rfl ?_
 unfold zsq
 repeat (first | refine za0 rfl ?_ | refine za4 ?_ | refine za3 rfl ?_)
 refine zad ⟨rfl, _, rfl, ?_⟩
 unfold zo6
 repeat (first | refine za5 ?_ | refine za0 rfl ?_ | refine zae ?_ | refine za3 rfl ?_)
 refine zag g1 rfl ?_
 cases r <;> cases b
 all_goals repeat (first | refine za5 ?_ | refine za0 rfl ?_ | refine za4 ?_ | refine za2 ?_ | refine zbe ?_ | refine zab ?_ | refine zb6 rfl ?_ | refine zbi rfl ?_ | refine zng rfl rfl rfl ?_ | refine zff rfl rfl rfl ?_)
 all_goals first
  | (
    refine zap (sp := 0) (cs := [.bool false]) g3 rfl rfl rfl (by rw [za1, if_neg (by decide)]; exact h0) rfl rfl ?_
    repeat (first | refine za4 ?_ | refine za2 ?_ | refine zaf ?_ | refine zah ?_)
    refine zad ⟨10, zd5 ltm, [6], zrb, zrf, (1, 1), ?_, some .ret, rfl, ⟨Nat.le_refl _, Nat.le_refl _, fun i hi hj => ?_⟩, ?_⟩
    ·dsimp only [st]
     rw [za1, if_neg (by decide), za1, if_pos rfl]
    ·dsimp only [st]
     rw [za1, if_neg (by omega), za1, if_neg (by omega), za1, if_neg (by omega)]
    ·refine ⟨rfl, nx, ⟨zd5 ltm, ?_⟩, ?_, ?_⟩
     ·dsimp only [st]
      rw [za1, if_pos rfl]; rfl
     ·dsimp only [st]
      rw [za1, if_neg (by decide), za1, if_neg (by decide), za1, if_neg (by decide)]; exact h1
     ·dsimp only [st]
      rw [za1, if_neg (by decide), za1, if_pos rfl]; rfl)
  | (
    refine zad ⟨10, zd5 ltm, [6], zrb, zrf, (1, 1), ?_, none, rfl, ⟨Nat.le_refl _, Nat.le_refl _, fun i hi hj => ?_⟩, ?_⟩
    ·dsimp only [st]
     rw [za1, if_pos rfl]
    ·dsimp only [st]
     rw [za1, if_neg (by omega), za1, if_neg (by omega)]
    ·refine ⟨rfl, nx, ?_, ?_, ?_⟩
     ·dsimp only [st]
      rw [za1, if_pos rfl]; rfl
     ·dsimp only [st]
      rw [za1, if_neg (by decide), za1, if_neg (by decide)]; exact h1
     ·dsimp only [st]
      rw [za1, if_neg (by decide), za1, if_neg (by decide)]; exact h0)
set_option maxHeartbeats 2000000 in
theorem zld (b : Bool) (v : List Bool) (op ix : Int) (args : List Ex) (hlen : args.length ≤ 256) (hev : ∀ y ∈ args, PF Try.prog 158 [.agg (cX y), vsB v] (.bool (zcn v y))) :
  PF Try.prog 174 [.fn 168 [] [.vptr (cX (.nd op ix args)), .vptr [vsB v]], .vptr [.bool b]] (.bool ((args.map (zcn v)).all (· == b))) := by
 refine zb1 env0_ok fn174 [(0, .fn 168 [] [.vptr (cX (.nd op ix args)), .vptr [vsB v]]), (1, .vptr [.bool b])] (by show 2 ≤ 10; decide) rfl fun w0 N0 => ?_
 unfold ic174
 repeat (first | refine za5 ?_ | refine za0 rfl ?_ | refine za4 ?_ | refine za2 ?_ | refine zae ?_ | refine za3 rfl ?_ | refine zbl ?_)
 refine zmh (.inl rfl) rfl fun ha hb => (seq110 v op ix args hlen hev (local115 _) (fun s r H h => yield115 _ b rfl rfl ha hb s r H h) ⟨_, _, _⟩ () ⟨Nat.le_refl _, rfl, rfl, rfl⟩).mono fun v2 H2 hF => ?_
 obtain ⟨hK, hF⟩ := hF
 rw [foldE] at hF
 cases hall : (args.map (zcn v)).all (· == b) with
 | true =>
  rw [hall, if_pos rfl] at hF
  obtain ⟨nx, h2, h1, h0⟩ := hF
  refine ⟨_, _, .normal, _, _, _, _, _, _, h2, by simp, rfl, fun z hz => ?_, ?_⟩
  ·obtain rfl := List.mem_singleton.1 hz
   rw [za9, if_neg (by decide)]; exact h1
  ·repeat (first | refine za5 ?_ | refine za0 rfl ?_ | refine za2 ?_ | refine zbe ?_)
   refine zap (sp := 0) (cs := [.bool false]) rfl rfl rfl rfl (by rw [za9, if_neg (by decide)]; exact h0) rfl rfl ?_
   repeat (first | refine za4 ?_ | refine za2 ?_ | refine zaf ?_)
   refine zad ⟨.inr rfl, .bool true, zgz (zel 3) (zd9 (sp := 0) (cs := [.bool true]) ?_ ?_), rfl⟩
   ·show Am.look 0 (zbj 1 (zb4 0 _ (zbj 2 H2.heap))) = _
    rw [za9, if_neg (by decide), za1, if_pos rfl]; rfl
   ·show 0 < H2.next; omega
 | false =>
  rw [hall, if_neg (by simp)] at hF
  obtain ⟨nx, ⟨tm, h2⟩, h1, h0⟩ := hF
  refine ⟨_, _, .ret, _, _, _, _, _, _, h2, by simp, rfl, fun z hz => ?_, ?_⟩
  ·obtain rfl := List.mem_singleton.1 hz
   rw [za9, if_neg (by decide)]; exact h1
  ·repeat (first | refine za6 ?_ | refine zah ?_)
   refine zad ⟨.inr rfl, .bool false, zgz (zel 3) (zd9 (sp := 0) (cs := [.bool false]) ?_ ?_), rfl⟩
   ·show Am.look 0 (zbj 1 (zbj 2 H2.heap)) = _
    rw [za9, if_neg (by decide), za9, if_neg (by decide)]; exact h0
   ·show 0 < H2.next; omega
-- pneumatic/boolexp.shapes$1
def ic172 : IC := .seq (.region [⟨(some 2), .mov (.c (.bool false)), none⟩] none)
 (.seq (.region [⟨(some 3), .call (.c (.fn 171 [] [])) [(.c (.bool false))], none⟩,
  ⟨(some 4), .mov (.t 0), none⟩,
  ⟨(some 5), .call (.t 3) [(.t 4)], none⟩,
  ⟨(some 6), .un .not (.t 5), none⟩,
  ⟨(some 2), .mov (.t 6), none⟩] none)
 (.ret))
theorem fn172 : env0.fn 172 = some ⟨7, ic172, [.t 2]⟩ := by kernel_rfl
theorem some112 (v : List Bool) (op ix : Int) (args : List Ex) (hlen : args.length ≤ 256) (hev : ∀ y ∈ args, PF Try.prog 158 [.agg (cX y), vsB v] (.bool (zcn v y))) :
  PF Try.prog 172 [.fn 168 [] [.vptr (cX (.nd op ix args)), .vptr [vsB v]]] (.bool (!(args.map (zcn v)).all (· == false))) := by
 refine zb1 env0_ok fn172 [(0, .fn 168 [] [.vptr (cX (.nd op ix args)), .vptr [vsB v]])] (by show 1 ≤ 7; decide) rfl fun w0 N0 => ?_
 unfold ic172
 repeat (first | refine za5 ?_ | refine za0 rfl ?_ | refine za4 ?_ | refine za2 ?_ | refine za3 rfl ?_)
 refine zas rfl rfl every111 (fun h => Bool.noConfusion (show false = true from h)) ?_
 repeat (first | refine za3 rfl ?_)
 refine zhl rfl rfl rfl (zld false v op ix args hlen hev) (fun h => Bool.noConfusion (show false = true from h)) ?_
 repeat (first | refine za4 ?_ | refine za2 ?_ | refine zaf ?_ | refine za3 rfl ?_ | refine zi1 rfl rfl ?_)
 exact zad ⟨.inr rfl, _, rfl, rfl⟩
end Go.Proofs.Ytoiblgbaeglgoaa
namespace Go.Proofs.Ytoiblgbaeglgoaa
open Go Go.Am
-- pneumatic/boolexp.eval
def ic158 : IC := .seq (.region [⟨(some 2), .box (.t 0), none⟩,
  ⟨(some 3), .box (.t 1), none⟩,
  ⟨(some 4), .mov (.c (.bool false)), none⟩] none)
 (.seq (.seq (.region [⟨(some 5), .faddr 0 (.t 2), none⟩,
  ⟨(some 6), .load none (.t 5), none⟩] none)
 (.block 0 (.seq (.region [⟨(some 8), .bin .eql (.t 6) (.c (.int .i64 0)), none⟩,
  ⟨(some 7), .mov (.t 8), none⟩] none)
 (.cond (.t 7) (.seq (.region [⟨(some 9), .faddr 1 (.t 2), none⟩,
  ⟨(some 10), .load none (.t 9), none⟩,
  ⟨(some 11), .bin .eql (.t 10) (.c (.int .i64 1)), none⟩,
  ⟨(some 4), .mov (.t 11), none⟩] none)
 (.ret))
 (.seq (.region [⟨(some 13), .bin .eql (.t 6) (.c (.int .i64 1)), none⟩,
  ⟨(some 12), .mov (.t 13), none⟩] none)
 (.cond (.t 12) (.seq (.region [⟨(some 14), .load none (.t 3), none⟩,
  ⟨(some 15), .faddr 1 (.t 2), none⟩,
  ⟨(some 16), .load none (.t 15), none⟩,
  ⟨(some 17), .idxs 1 (.t 14) (.t 16), none⟩,
  ⟨(some 18), .load none (.t 17), none⟩,
  ⟨(some 4), .mov (.t 18), none⟩] none)
 (.ret))
 (.skip)))))))
 (.seq (.region [⟨(some 19), .call (.c (.fn 167 [] [])) [], none⟩,
  ⟨(some 20), .faddr 0 (.t 2), none⟩,
  ⟨(some 21), .load none (.t 20), none⟩,
  ⟨(some 22), .idxagg 5 3 true (.t 19) (.t 21), none⟩,
  ⟨(some 23), .field 2 none (.t 22), none⟩,
  ⟨(some 24), .mkfn 168 [] [(.t 2), (.t 3)], none⟩,
  ⟨(some 25), .call (.t 23) [(.t 24)], none⟩,
  ⟨(some 4), .mov (.t 25), none⟩] (some [[], [], [1], [0, 2], [3], [], [4, 5, 0], [6, 6, 0, 1, 2, 3, 4, 5, 6]]))
 (.ret)))
theorem fn158 : env0.fn 158 = some ⟨26, ic158, [.t 4]⟩ := by kernel_rfl
theorem zr7 (a : Bool) : ([a].all (· == false)) = !a := by cases a <;> rfl
theorem all_true (l : List Bool) : l.all (· == true) = l.all id := by
 induction l with
 | nil => rfl
 | cons a l ih => rw [List.all_cons, List.all_cons, ih]; cases a <;> rfl
theorem zsl (l : List Bool) : (!l.all (· == false)) = l.any id := by
 induction l with
 | nil => rfl
 | cons a l ih => rw [List.all_cons, List.any_cons, ← ih]; cases a <;> simp
set_option maxHeartbeats 4000000 in
theorem eval100 (v : List Bool) : ∀ (q : Nat) (x : Ex), SizeOf.sizeOf x ≤ q → nds v.length x = 0 → PF Try.prog 158 [.agg (cX x), vsB v] (.bool (zcn v x)) := by
 intro q
 induction q with
 | zero => intro x hq; cases x; simp at hq
 | succ q ih =>
 intro x hq hs
 obtain ⟨op, ix, args⟩ := x
 obtain ⟨hn, hch⟩ := nds_args hs
 obtain ⟨o0, o5, kl, km, i0, im⟩ := nodeV_ok hn
 have hlen : args.length ≤ 256 := by
  unfold zbp at km
  (repeat' split at km) <;> omega
 have hev : ∀ y ∈ args, PF Try.prog 158 [.agg (cX y), vsB v] (.bool (zcn v y)) := fun y hy => ih y (by have := zr2 (op := op) (ix := ix) hy; omega) (hch y hy)
 have hop : op = 0 ∨ op = 1 ∨ op = 2 ∨ op = 3 ∨ op = 4 := by omega
 have hd : zcn v (.nd op ix args) = if op = 0 then ix == 1 else if op = 1 then v.getD ix.toNat false else if op = 2 then !(zhd v args).headD false else if op = 3 then (zhd v args).all id else (zhd v args).any id := by rw [zcn]
 rw [hd]
 refine zb1 env0_ok fn158 [(0, .agg (cX (.nd op ix args))), (1, vsB v)] (by show 2 ≤ 26; decide) rfl fun w0 N0 => ?_
 unfold ic158
 rcases hop with rfl | rfl | rfl | rfl | rfl
 ·rw [if_pos rfl]
  repeat (first | refine za5 ?_ | refine za0 rfl ?_ | refine za4 ?_ | refine za2 ?_ | refine zae ?_ | refine zb6 rfl ?_ | refine za3 rfl ?_ | refine zag rfl rfl ?_ | refine zaa rfl ?_ | refine zcq rfl rfl ?_ | refine zbu rfl rfl rfl ?_)
  refine zak rfl rfl rfl (fun h1 => ?_) fun h1 => ?_
  ·rw [h1]
   repeat (first | refine za4 ?_ | refine za2 ?_ | refine zaf ?_ | refine za6 ?_ | refine zah ?_ | refine za3 rfl ?_)
   exact zad ⟨.inr rfl, _, rfl, rfl⟩
  ·rw [h1]
   repeat (first | refine za4 ?_ | refine za2 ?_ | refine zaf ?_ | refine za6 ?_ | refine zah ?_ | refine za3 rfl ?_)
   exact zad ⟨.inr rfl, _, rfl, rfl⟩
 ·rw [if_neg (by decide), if_pos rfl]
  repeat (first | refine za5 ?_ | refine za0 rfl ?_ | refine za4 ?_ | refine za2 ?_ | refine zae ?_ | refine zb6 rfl ?_ | refine zbi rfl ?_ | refine za3 rfl ?_ | refine zag rfl rfl ?_ | refine zaa rfl ?_ | refine zcq rfl rfl ?_ | refine zbu rfl rfl rfl ?_ | refine zbt rfl rfl rfl ?_)
  have hi : ix.toNat < v.length := by
   simp [zbs] at im
   omega
  refine zc2 rfl rfl i0 (vs_get v _ hi) rfl ?_
  repeat (first | refine za4 ?_ | refine za2 ?_ | refine zaf ?_ | refine za6 ?_ | refine zah ?_ | refine za3 rfl ?_ | refine zag rfl rfl ?_)
  exact zad ⟨.inr rfl, _, rfl, rfl⟩
 ·rw [if_neg (by decide), if_neg (by decide), if_pos rfl]
  have h1 : args.length = 1 := by simp [zb0, zbp] at kl km; omega
  have heq : (args.map (zcn v)).all (· == false) = !(zhd v args).headD false := by
   obtain ⟨y, rfl⟩ := List.length_eq_one_iff.1 h1
   rw [zhd, zhd, List.map_cons, List.map_nil, zr7]
   rfl
  repeat (first | refine za5 ?_ | refine za0 rfl ?_ | refine za4 ?_ | refine za2 ?_ | refine zbe ?_ | refine zae ?_ | refine zab ?_ | refine zbi rfl ?_ | refine za3 rfl ?_ | refine zag rfl rfl ?_ | refine zaa rfl ?_ | refine zcq rfl rfl ?_ | refine zbt rfl rfl rfl ?_)
  refine zhv env0_ok [(167, [], zf2), (174, [.fn 168 [] [.vptr (cX (.nd 2 ix args)), .vptr [vsB v]], .vptr [.bool false]], .bool ((args.map (zcn v)).all (· == false)))] (fun x hx => by rcases List.mem_cons.1 hx with rfl | hx; exact zh2; obtain rfl := List.mem_singleton.1 hx; exact zld false v 2 ix args hlen hev) (fun f => Nat.beq f 167) rfl rfl rfl ?_
  refine zas rfl rfl zcx (fun h => Bool.noConfusion (show false = true from h)) ?_
  unfold zf2
  repeat (first | refine zag rfl rfl ?_ | refine zaa rfl ?_ | refine zg4 rfl rfl ?_ | refine zcc rfl rfl rfl rfl ?_ | refine zf4 rfl rfl ?_)
  refine zhl rfl rfl rfl (zhf (by decide) zcx) (fun _ => rfl) ?_
  repeat (first | refine za4 ?_ | refine za2 ?_ | refine zaf ?_ | refine za3 rfl ?_)
  refine zad ⟨.inr rfl, _, rfl, ?_⟩
  show AV.bool _ = AV.bool _
  exact congrArg AV.bool heq
 ·rw [if_neg (by decide), if_neg (by decide), if_neg (by decide), if_pos rfl, zlm]
  have heq : (args.map (zcn v)).all (· == true) = (args.map (zcn v)).all id := all_true _
  repeat (first | refine za5 ?_ | refine za0 rfl ?_ | refine za4 ?_ | refine za2 ?_ | refine zbe ?_ | refine zae ?_ | refine zab ?_ | refine zbi rfl ?_ | refine za3 rfl ?_ | refine zag rfl rfl ?_ | refine zaa rfl ?_ | refine zcq rfl rfl ?_ | refine zbt rfl rfl rfl ?_)
  refine zhv env0_ok [(167, [], zf2), (174, [.fn 168 [] [.vptr (cX (.nd 3 ix args)), .vptr [vsB v]], .vptr [.bool true]], .bool ((args.map (zcn v)).all (· == true)))] (fun x hx => by rcases List.mem_cons.1 hx with rfl | hx; exact zh2; obtain rfl := List.mem_singleton.1 hx; exact zld true v 3 ix args hlen hev) (fun f => Nat.beq f 167) rfl rfl rfl ?_
  refine zas rfl rfl zcx (fun h => Bool.noConfusion (show false = true from h)) ?_
  unfold zf2
  repeat (first | refine zag rfl rfl ?_ | refine zaa rfl ?_ | refine zg4 rfl rfl ?_ | refine zcc rfl rfl rfl rfl ?_ | refine zf4 rfl rfl ?_)
  refine zhl rfl rfl rfl (zhf (by decide) zcx) (fun _ => rfl) ?_
  repeat (first | refine za4 ?_ | refine za2 ?_ | refine zaf ?_ | refine za3 rfl ?_)
  refine zad ⟨.inr rfl, _, rfl, ?_⟩
  show AV.bool _ = AV.bool _
  exact congrArg AV.bool heq
 ·rw [if_neg (by decide), if_neg (by decide), if_neg (by decide), if_neg (by decide), zlm]
  have heq : (!(args.map (zcn v)).all (· == false)) = (args.map (zcn v)).any id := zsl _
  repeat (first | refine za5 ?_ | refine za0 rfl ?_ | refine za4 ?_ | refine za2 ?_ | refine zbe ?_ | refine zae ?_ | refine zab ?_ | refine zbi rfl ?_ | refine za3 rfl ?_ | refine zag rfl rfl ?_ | refine zaa rfl ?_ | refine zcq rfl rfl ?_ | refine zbt rfl rfl rfl ?_)
  refine zhv env0_ok [(167, [], zf2), (172, [.fn 168 [] [.vptr (cX (.nd 4 ix args)), .vptr [vsB v]]], .bool (!(args.map (zcn v)).all (· == false)))] (fun x hx => by rcases List.mem_cons.1 hx with rfl | hx; exact zh2; obtain rfl := List.mem_singleton.1 hx; exact some112 v 4 ix args hlen hev) (fun f => Nat.beq f 167) rfl rfl rfl ?_
  refine zas rfl rfl zcx (fun h => Bool.noConfusion (show false = true from h)) ?_
  unfold zf2
  repeat (first | refine zag rfl rfl ?_ | refine zaa rfl ?_ | refine zg4 rfl rfl ?_ | refine zcc rfl rfl rfl rfl ?_ | refine zf4 rfl rfl ?_)
  refine zhl rfl rfl rfl (zhf (by decide) zcx) (fun _ => rfl) ?_
  repeat (first | refine za4 ?_ | refine za2 ?_ | refine zaf ?_ | refine za3 rfl ?_)
  refine zad ⟨.inr rfl, _, rfl, ?_⟩
  show AV.bool _ = AV.bool _
  exact congrArg AV.bool heq
-- pneumatic/boolexp.Eval
def ic131 : IC := .seq (.region [⟨(some 2), .box (.t 0), none⟩,
  ⟨(some 4), .mov (.c (.bool false)), none⟩,
  ⟨(some 5), .mov (.c (.int .i64 0)), none⟩] none)
 (.seq (.seq (.region [⟨(some 7), .load (some 3) (.t 2), none⟩,
  ⟨(some 8), .mov (.t 1), none⟩,
  ⟨(some 9), .len false (.t 8), none⟩,
  ⟨(some 10), .call (.c (.fn 128 [] [])) [(.t 7), (.t 9)], none⟩,
  ⟨(some 6), .mov (.t 10), none⟩] none)
 (.seq (.region [⟨(some 11), .mov (.t 6), none⟩,
  ⟨(some 12), .bin .neq (.t 11) (.c (.int .i64 0)), none⟩] none)
 (.cond (.t 12) (.seq (.region [⟨(some 13), .mov (.t 6), none⟩,
  ⟨(some 4), .mov (.c (.bool false)), none⟩,
  ⟨(some 5), .mov (.t 13), none⟩] none)
 (.ret))
 (.skip))))
 (.seq (.region [⟨(some 14), .load (some 3) (.t 2), none⟩,
  ⟨(some 15), .mov (.t 1), none⟩,
  ⟨(some 16), .call (.c (.fn 158 [] [])) [(.t 14), (.t 15)], none⟩,
  ⟨(some 4), .mov (.t 16), none⟩,
  ⟨(some 5), .mov (.c (.int .i64 0)), none⟩] none)
 (.ret)))
theorem fn131 : env0.fn 131 = some ⟨17, ic131, [.t 4, .t 5]⟩ := by kernel_rfl
def evalV (x : Ex) (v : List Bool) : AV := if zd3 x v.length = 0 then .tup [.bool (zcn v x), .int .i64 0] else .tup [.bool false, .int .i64 (zd3 x v.length)]
theorem nds_of {x : Ex} {n : Int} (h : zd3 x n = 0) : nds n x = 0 := by
 unfold zd3 at h
 split at h
 ·exact absurd h (by decide)
 ·split at h
  ·exact h
  ·exact absurd h (by decide)
theorem eval81 (x : Ex) (hs : Slim x) (v : List Bool) : PF Try.prog 131 [.agg (cX x), vsB v] (evalV x v) := by
 have h59 := zt9 x hs v.length
 rw [zpx] at h59
 have h100 : zd3 x v.length = 0 → PF Try.prog 158 [.agg (cX x), vsB v] (.bool (zcn v x)) := fun h => eval100 v _ x (Nat.le_refl _) (nds_of h)
 have hl : ((v.map fun b => ([.bool b] : List AV)).length : Int) = v.length := by rw [List.length_map]
 obtain ⟨op, ix, args⟩ := x
 refine zb1 env0_ok fn131 [(0, .agg (cX (.nd op ix args))), (1, vsB v)] (by show 2 ≤ 17; decide) rfl fun w0 N0 => ?_
 unfold ic131 evalV
 repeat (first | refine za5 ?_ | refine za0 rfl ?_ | refine za4 ?_ | refine za2 ?_ | refine za3 rfl ?_ | refine zaw rfl rfl rfl rfl ?_ | refine zbk rfl rfl ?_ | refine zcq rfl rfl ?_)
 refine zas rfl (by rw [show (((fun n => AV.int .i64 n) (v.map fun b => ([.bool b] : List AV)).length) : AV) = .int .i64 v.length from congrArg _ hl]; rfl) h59 (fun h => Bool.noConfusion (show false = true from h)) ?_
 repeat (first | refine za5 ?_ | refine za0 rfl ?_ | refine za4 ?_ | refine za2 ?_ | refine za3 rfl ?_)
 refine zak rfl rfl rfl (fun h1 => ?_) fun h1 => ?_
 ·have h1 := bne_iff_ne.1 h1
  rw [if_neg h1]
  repeat (first | refine za5 ?_ | refine za0 rfl ?_ | refine za4 ?_ | refine za2 ?_ | refine zb6 rfl ?_ | refine zaf ?_ | refine za6 ?_ | refine za3 rfl ?_)
  exact zad ⟨.inr rfl, _, rfl, rfl⟩
 ·have h1 : zd3 (.nd op ix args) v.length = 0 := by simpa using h1
  rw [if_pos h1]
  repeat (first | refine za5 ?_ | refine za0 rfl ?_ | refine za4 ?_ | refine za2 ?_ | refine zab ?_ | refine zbi rfl ?_ | refine za3 rfl ?_ | refine zaw rfl rfl rfl rfl ?_)
  refine zas rfl rfl (h100 h1) (fun h => Bool.noConfusion (show false = true from h)) ?_
  repeat (first | refine za4 ?_ | refine za2 ?_ | refine zaf ?_ | refine za3 rfl ?_)
  exact zad ⟨.inr rfl, _, rfl, rfl⟩
end Go.Proofs.Ytoiblgbaeglgoaa
namespace Go.Proofs.Ytoiblgbaeglgoaa
open Go Go.Am
def fewB (l : List Ex) : Bool := !(decide (10 < l.length ∧ l.length ≤ 256) || decide (512 < l.length)) && l.all ze6
def zt2 : IC := .seq (.seq (.region [⟨(some 20), .mov (.t 3), none⟩,
  ⟨(some 21), .faddr 0 (.t 1), none⟩,
  ⟨(some 22), .load none (.t 21), none⟩,
  ⟨(some 23), .len false (.t 22), none⟩,
  ⟨(some 24), .bin .lss (.t 20) (.t 23), none⟩] none)
 (.cond (.t 24) (.skip)
 (.exit 0)))
 (.seq (.block 1 (.seq (.region [⟨(some 27), .faddr 0 (.t 1), none⟩,
  ⟨(some 28), .load none (.t 27), none⟩,
  ⟨(some 29), .mov (.t 3), none⟩,
  ⟨(some 30), .idxs 3 (.t 28) (.t 29), none⟩,
  ⟨(some 31), .load (some 3) (.t 30), none⟩,
  ⟨(some 32), .call (.c (.fn 74 [] [])) [(.t 31)], none⟩,
  ⟨(some 33), .un .not (.t 32), none⟩] none)
 (.cond (.t 33) (.seq (.region [⟨(some 2), .mov (.c (.bool false)), none⟩] none)
 (.ret))
 (.skip))))
 (.region [⟨(some 25), .mov (.t 3), none⟩,
  ⟨(some 26), .bin .add (.t 25) (.c (.int .i64 1)), none⟩,
  ⟨(some 3), .mov (.t 26), none⟩] none))
-- pneumatic/pneumaticref49.Few
def ic15 : IC := .seq (.region [⟨(some 1), .box (.t 0), none⟩,
  ⟨(some 2), .mov (.c (.bool false)), none⟩] none)
 (.seq (.seq (.region [⟨(some 4), .faddr 0 (.t 1), none⟩,
  ⟨(some 5), .load none (.t 4), none⟩,
  ⟨(some 6), .len false (.t 5), none⟩,
  ⟨(some 7), .bin .gtr (.t 6) (.c (.int .i64 10)), none⟩,
  ⟨(some 8), .mov (.t 7), none⟩,
  ⟨(some 9), .faddr 0 (.t 1), some (8, true)⟩,
  ⟨(some 10), .load none (.t 9), some (8, true)⟩,
  ⟨(some 11), .len false (.t 10), some (8, true)⟩,
  ⟨(some 12), .bin .leq (.t 11) (.c (.int .i64 256)), some (8, true)⟩,
  ⟨(some 13), .pick (.t 8) (.t 12) (.c (.bool false)), none⟩,
  ⟨(some 14), .mov (.t 13), none⟩,
  ⟨(some 15), .faddr 0 (.t 1), some (14, false)⟩,
  ⟨(some 16), .load none (.t 15), some (14, false)⟩,
  ⟨(some 17), .len false (.t 16), some (14, false)⟩,
  ⟨(some 18), .bin .gtr (.t 17) (.c (.int .i64 512)), some (14, false)⟩,
  ⟨(some 19), .pick (.t 14) (.c (.bool true)) (.t 18), none⟩] none)
 (.cond (.t 19) (.seq (.region [⟨(some 2), .mov (.c (.bool false)), none⟩] none)
 (.ret))
 (.skip)))
 (.seq (.seq (.region [⟨(some 3), .mov (.c (.int .i64 0)), none⟩] none)
 (.block 0 (.loop zt2)))
 (.seq (.region [⟨(some 2), .mov (.c (.bool true)), none⟩] none)
 (.ret))))
theorem fn15 : env0.fn 15 = some ⟨34, ic15, [.t 2]⟩ := by kernel_rfl
set_option maxHeartbeats 2000000 in
theorem few11 (l : List Ex) (hlen : l.length < 9223372036854775808) (hsl : ∀ y ∈ l, Slim y) : PF Try.prog 15 [.agg [.vs (cXs l)]] (.bool (fewB l)) := by
 have hcl : (cXs l).length = l.length := zaj l
 refine zb1 env0_ok fn15 [(0, .agg [.vs (cXs l)])] (by show 1 ≤ 34; decide) rfl fun w0 N0 => ?_
 unfold ic15
 have rest : ¬ ((10 < l.length ∧ l.length ≤ 256) ∨ 512 < l.length) → fewB l = l.all ze6 := fun h => by
  unfold fewB
  rw [decide_eq_false (fun h1 => h (.inl h1)), decide_eq_false (fun h1 => h (.inr h1))]
  rfl
 have none_ : ((10 < l.length ∧ l.length ≤ 256) ∨ 512 < l.length) → fewB l = false := fun h => by
  unfold fewB
  rcases h with h | h
  ·rw [decide_eq_true h]; rfl
  ·rw [decide_eq_true h, Bool.or_true]; rfl
 have loop : ∀ (s1 : AS), Subm w0 N0 none s1 (st 34 [(1, .mptr 0 0 0), (3, .int .i64 ((0 : Nat) : Int))] [(0, 0, .cells [.vs (cXs l)])] 1 1) → fewB l = l.all ze6 →
   Zm Try.prog w0 N0 none (.loop zt2) s1 [.blk 0, .seq (.seq (.region [⟨some 2, .mov (.c (.bool true)), none⟩] none) .ret)] fun e S' => (e = .normal ∨ e = .ret) ∧ ∃ v0, S'.leave.res [.t 2] = some v0 ∧ (⟨0, .nil, S'.leave.heap, S'.leave.next, S'.leave.clk, []⟩ : AS).view VD v0 = .bool (fewB l) := fun s1 hs1 hf => by
  rw [hf]
  refine zcj (fun mm S => ∃ i, mm = l.length - i ∧ i ≤ l.length ∧ l.all ze6 = (l.drop i).all ze6 ∧
   S = st 34 [(1, .mptr 0 0 0), (3, .int .i64 (i : Nat))] [(0, 0, .cells [.vs (cXs l)])] 1 1) l.length hs1 ⟨0, rfl, Nat.zero_le _, rfl, rfl⟩ ?_
  rintro mm S ⟨i, rfl, hi, hall, rfl⟩
  unfold zt2
  repeat (first | refine za5 ?_ | refine za0 rfl ?_ | refine za3 rfl ?_ | refine zag rfl rfl ?_ | refine zaa rfl ?_ | refine zbk rfl rfl ?_)
  refine zak rfl rfl rfl (fun h3 => ?_) fun h3 => ?_
  ·have hlt : i < l.length := by
    have := of_decide_eq_true h3
    rw [zaj] at this
    omega
   have hdr : l.drop i = l[i] :: l.drop (i + 1) := List.drop_eq_getElem_cons hlt
   rw [hdr] at hall
   have hge := zee hlt
   have hmem : l[i] ∈ l := List.getElem_mem hlt
   generalize l[i] = y at hall hge hmem
   have hsy := hsl y hmem
   obtain ⟨yo, yi, ya⟩ := y
   repeat (first | refine za5 ?_ | refine za0 rfl ?_ | refine za4 ?_ | refine za2 ?_ | refine zae ?_ | refine zab ?_ | refine zb6 rfl ?_ | refine za3 rfl ?_ | refine zag rfl rfl ?_ | refine zaa rfl ?_)
   refine zc2 rfl rfl (Int.natCast_nonneg i) hge rfl ?_
   repeat (first | refine zaw rfl rfl rfl rfl ?_)
   have hc := zul _ hsy
   rw [List.all_cons] at hall
   cases hb : ze6 (.nd yo yi ya) with
   | true =>
    rw [hb] at hc hall
    rw [Bool.true_and] at hall
    refine zas rfl rfl hc (fun h => Bool.noConfusion (show false = true from h)) ?_
    repeat (first | refine za0 rfl ?_ | refine za4 ?_ | refine za2 ?_ | refine zbe ?_ | refine zab ?_ | refine zbi rfl ?_ | refine za3 rfl ?_ | refine zi1 rfl rfl ?_ | refine zao (op := .add) rfl rfl rfl ?_)
    rw [zb2 i (by omega)]
    exact zaz (show l.length - (i + 1) < l.length - i by omega) (zam (.cons rfl (.cons rfl .nil))) ⟨i + 1, rfl, hlt, hall, rfl⟩
   | false =>
    rw [hb] at hc hall
    rw [Bool.false_and] at hall
    refine zas rfl rfl hc (fun h => Bool.noConfusion (show false = true from h)) ?_
    repeat (first | refine za5 ?_ | refine za0 rfl ?_ | refine za4 ?_ | refine za2 ?_ | refine zb6 rfl ?_ | refine zaf ?_ | refine za6 ?_ | refine zah ?_ | refine za3 rfl ?_ | refine zi1 rfl rfl ?_)
    refine zbq ?_
    repeat (first | refine za6 ?_ | refine zah ?_)
    refine zad ⟨.inr rfl, _, rfl, ?_⟩
    rw [hall]
    rfl
  ·have hi2 : i = l.length := by
    have := of_decide_eq_false h3
    rw [zaj] at this
    omega
   subst hi2
   rw [List.drop_length] at hall
   repeat (first | refine za4 ?_ | refine za2 ?_ | refine zbi rfl ?_ | refine zc0 ?_ | refine zan ?_)
   refine zdk ?_
   repeat (first | refine za5 ?_ | refine za0 rfl ?_ | refine za4 ?_ | refine za2 ?_ | refine zaf ?_ | refine zby ?_ | refine za3 rfl ?_)
   refine zad ⟨.inr rfl, _, rfl, ?_⟩
   rw [hall]
   rfl
 repeat (first | refine za5 ?_ | refine za0 rfl ?_ | refine za4 ?_ | refine za2 ?_ | refine za3 rfl ?_ | refine zag rfl rfl ?_ | refine zaa rfl ?_ | refine zbk rfl rfl ?_ | refine zcq rfl rfl ?_)
 refine zak rfl rfl rfl (fun h1 => ?_) fun h1 => ?_
 ·have h1 := of_decide_eq_true h1
  repeat (first | refine zc8 rfl ?_ | refine za3 rfl ?_ | refine zag rfl rfl ?_ | refine zaa rfl ?_ | refine zbk rfl rfl ?_)
  refine zak rfl rfl rfl (fun h2 => ?_) fun h2 => ?_
  ·have h2 := of_decide_eq_true h2
   repeat (first | refine za5 ?_ | refine za0 rfl ?_ | refine za4 ?_ | refine za2 ?_ | refine zb6 rfl ?_ | refine zaf ?_ | refine za6 ?_ | refine zdv rfl rfl ?_ | refine za3 rfl ?_ | refine zai rfl rfl ?_)
   refine zad ⟨.inr rfl, _, rfl, ?_⟩
   rw [none_ (.inl ⟨by omega, by omega⟩)]
   rfl
  ·have h2 := of_decide_eq_false h2
   repeat (first | refine zc8 rfl ?_ | refine za3 rfl ?_ | refine zag rfl rfl ?_ | refine zaa rfl ?_ | refine zai rfl rfl ?_ | refine zbk rfl rfl ?_)
   refine zak rfl rfl rfl (fun h3 => ?_) fun h3 => ?_
   ·have h3 := of_decide_eq_true h3
    repeat (first | refine za5 ?_ | refine za0 rfl ?_ | refine za4 ?_ | refine za2 ?_ | refine zb6 rfl ?_ | refine zaf ?_ | refine za6 ?_ | refine za3 rfl ?_ | refine zac rfl rfl ?_)
    refine zad ⟨.inr rfl, _, rfl, ?_⟩
    rw [none_ (.inr (by omega))]
    rfl
   ·have h3 := of_decide_eq_false h3
    repeat (first | refine za5 ?_ | refine za0 rfl ?_ | refine za4 ?_ | refine za2 ?_ | refine zae ?_ | refine zab ?_ | refine zbi rfl ?_ | refine za3 rfl ?_ | refine zac rfl rfl ?_)
    exact loop _ (zam (.cons rfl (.cons rfl .nil))) (rest (by omega))
 ·have h1 := of_decide_eq_false h1
  repeat (first | refine zc8 rfl ?_ | refine zdv rfl rfl ?_ | refine za3 rfl ?_ | refine zag rfl rfl ?_ | refine zaa rfl ?_ | refine zac rfl rfl ?_ | refine zbk rfl rfl ?_)
  refine zak rfl rfl rfl (fun h3 => ?_) fun h3 => ?_
  ·have h3 := of_decide_eq_true h3
   exact absurd h3 (by omega)
  ·repeat (first | refine za5 ?_ | refine za0 rfl ?_ | refine za4 ?_ | refine za2 ?_ | refine zae ?_ | refine zab ?_ | refine zbi rfl ?_ | refine za3 rfl ?_ | refine zac rfl rfl ?_)
   exact loop _ (zam (.cons rfl (.cons rfl .nil))) (rest (by omega))
end Go.Proofs.Ytoiblgbaeglgoaa
namespace Go.Proofs.Ytoiblgbaeglgoaa
open Go Go.Am
def zmi (m : Int) : List Ex → Int
 | [] => 0
 | y :: ys => if zd3 y m = 0 then zmi m ys else zd3 y m
def zc5 (l : List Ex) (n : Int) : Int := if n < 1 ∨ n > 6 then 2 else if l.length > 256 then 5 else zmi (2 * n) l
def body80 : IC := .seq (.region [⟨(some 24), .bin .lss (.t 23) (.t 22), none⟩] none)
 (.seq (.cond (.t 24) (.skip)
 (.exit 1))
 (.seq (.block 2 (.seq (.region [⟨(some 25), .idxs 3 (.t 21) (.t 23), none⟩,
  ⟨(some 26), .load (some 3) (.t 25), none⟩,
  ⟨(some 6), .alloc [.int .i64 0, .int .i64 0, .nils], none⟩,
  ⟨none, .store 3 (.t 6) (.t 26), none⟩] none)
 (.seq (.region [⟨(some 27), .load (some 3) (.t 6), none⟩,
  ⟨(some 28), .mov (.t 1), none⟩,
  ⟨(some 29), .bin .mul (.c (.int .i64 2)) (.t 28), none⟩,
  ⟨(some 30), .call (.c (.fn 128 [] [])) [(.t 27), (.t 29)], none⟩,
  ⟨(some 7), .mov (.t 30), none⟩] none)
 (.seq (.region [⟨(some 31), .mov (.t 7), none⟩,
  ⟨(some 32), .bin .neq (.t 31) (.c (.int .i64 0)), none⟩] none)
 (.cond (.t 32) (.seq (.region [⟨(some 33), .mov (.t 7), none⟩,
  ⟨(some 4), .mov (.t 33), none⟩] none)
 (.ret))
 (.skip))))))
 (.region [⟨(some 34), .bin .add (.t 23) (.c (.int .i64 1)), none⟩,
  ⟨(some 23), .mov (.t 34), none⟩] none)))
-- pneumatic/guard.Check
def ic80 : IC := .seq (.region [⟨(some 2), .box (.t 0), none⟩,
  ⟨(some 4), .mov (.c (.int .i64 0)), none⟩] none)
 (.seq (.block 0 (.seq (.region [⟨(some 9), .mov (.t 1), none⟩,
  ⟨(some 10), .bin .lss (.t 9) (.c (.int .i64 1)), none⟩,
  ⟨(some 11), .mov (.t 10), none⟩,
  ⟨(some 12), .mov (.t 1), some (11, false)⟩,
  ⟨(some 13), .bin .gtr (.t 12) (.c (.int .i64 6)), some (11, false)⟩,
  ⟨(some 14), .pick (.t 11) (.c (.bool true)) (.t 13), none⟩,
  ⟨(some 8), .mov (.t 14), none⟩] none)
 (.cond (.t 8) (.seq (.region [⟨(some 4), .mov (.c (.int .i64 2)), none⟩] none)
 (.ret))
 (.seq (.region [⟨(some 16), .faddr 0 (.t 2), none⟩,
  ⟨(some 17), .load none (.t 16), none⟩,
  ⟨(some 18), .len false (.t 17), none⟩,
  ⟨(some 19), .bin .gtr (.t 18) (.c (.int .i64 256)), none⟩,
  ⟨(some 15), .mov (.t 19), none⟩] none)
 (.cond (.t 15) (.seq (.region [⟨(some 4), .mov (.c (.int .i64 5)), none⟩] none)
 (.ret))
 (.skip))))))
 (.seq (.seq (.region [⟨(some 20), .faddr 0 (.t 2), none⟩,
  ⟨(some 21), .load none (.t 20), none⟩,
  ⟨(some 22), .len false (.t 21), none⟩,
  ⟨(some 23), .mov (.c (.int .i64 0)), none⟩] none)
 (.block 1 (.loop body80)))
 (.seq (.region [⟨(some 4), .mov (.c (.int .i64 0)), none⟩] none)
 (.ret))))
theorem fn80 : env0.fn 80 = some ⟨35, ic80, [.t 4]⟩ := by kernel_rfl
set_option maxHeartbeats 2000000 in
theorem zq7 (l : List Ex) (hsl : ∀ y ∈ l, Slim y) (n : Int) : PF Try.prog 80 [.agg [.vs (cXs l)], .int .i64 n] (.int .i64 (zc5 l n)) := by
 have hcl : (cXs l).length = l.length := zaj l
 refine zb1 env0_ok fn80 [(0, .agg [.vs (cXs l)]), (1, .int .i64 n)] (by show 2 ≤ 35; decide) rfl fun w0 N0 => ?_
 unfold ic80 zc5
 repeat (first | refine za5 ?_ | refine za0 rfl ?_ | refine za4 ?_ | refine za2 ?_ | refine zae ?_ | refine za3 rfl ?_ | refine zcq rfl rfl ?_)
 refine zak rfl rfl rfl (fun h1 => ?_) fun h1 => ?_
 ·have h1 := of_decide_eq_true h1
  rw [if_pos (.inl h1)]
  repeat (first | refine za5 ?_ | refine za0 rfl ?_ | refine za4 ?_ | refine za2 ?_ | refine zb6 rfl ?_ | refine zaf ?_ | refine za6 ?_ | refine zah ?_ | refine zdv rfl rfl ?_ | refine za3 rfl ?_ | refine zai rfl rfl ?_)
  exact zad ⟨.inr rfl, _, rfl, rfl⟩
 have h1 := of_decide_eq_false h1
 repeat (first | refine zc8 rfl ?_ | refine za3 rfl ?_)
 refine zak rfl rfl rfl (fun h2 => ?_) fun h2 => ?_
 ·have h2 := of_decide_eq_true h2
  rw [if_pos (.inr h2)]
  repeat (first | refine za5 ?_ | refine za0 rfl ?_ | refine za4 ?_ | refine za2 ?_ | refine zb6 rfl ?_ | refine zaf ?_ | refine za6 ?_ | refine zah ?_ | refine za3 rfl ?_ | refine zac rfl rfl ?_)
  exact zad ⟨.inr rfl, _, rfl, rfl⟩
 have h2 := of_decide_eq_false h2
 rw [if_neg (fun h => h.elim h1 h2)]
 repeat (first | refine za5 ?_ | refine za0 rfl ?_ | refine za4 ?_ | refine za2 ?_ | refine zbi rfl ?_ | refine za3 rfl ?_ | refine zag rfl rfl ?_ | refine zaa rfl ?_ | refine zac rfl rfl ?_ | refine zbk rfl rfl ?_)
 refine zak rfl rfl rfl (fun h2 => ?_) fun h2 => ?_
 ·have h2 := of_decide_eq_true h2
  rw [if_pos (by omega)]
  repeat (first | refine za5 ?_ | refine za0 rfl ?_ | refine za4 ?_ | refine za2 ?_ | refine zb6 rfl ?_ | refine zaf ?_ | refine za6 ?_ | refine zah ?_ | refine za3 rfl ?_)
  exact zad ⟨.inr rfl, _, rfl, rfl⟩
 have h2 := of_decide_eq_false h2
 rw [if_neg (by omega)]
 have hlen : l.length ≤ 256 := by omega
 repeat (first | refine za5 ?_ | refine za0 rfl ?_ | refine za4 ?_ | refine za2 ?_ | refine zbe ?_ | refine zae ?_ | refine zab ?_ | refine zbi rfl ?_ | refine za3 rfl ?_ | refine zag rfl rfl ?_ | refine zaa rfl ?_ | refine zbk rfl rfl ?_)
 refine zcj (fun mm S => ∃ i, mm = l.length - i ∧ i ≤ l.length ∧ zmi (2 * n) l = zmi (2 * n) (l.drop i) ∧
   S = st 35 [(1, .int .i64 n), (21, .vs (cXs l)), (22, .int .i64 (cXs l).length), (23, .int .i64 (i : Nat))] [] 0 1) l.length
  (zeb (.cons rfl (.same rfl) (.cons rfl (.same rfl) (.cons rfl (.same rfl) (.cons rfl (.same rfl) .nil))))) ⟨0, rfl, Nat.zero_le _, rfl, rfl⟩ ?_
 rintro mm S ⟨i, rfl, hi, hall, rfl⟩
 unfold body80
 repeat (first | refine za5 ?_ | refine za0 rfl ?_)
 refine zak rfl rfl rfl (fun h3 => ?_) fun h3 => ?_
 ·have hlt : i < l.length := by
   have := of_decide_eq_true h3
   rw [zaj] at this
   omega
  have hdr : l.drop i = l[i] :: l.drop (i + 1) := List.drop_eq_getElem_cons hlt
  rw [hdr] at hall
  have hge := zee hlt
  have hmem : l[i] ∈ l := List.getElem_mem hlt
  generalize l[i] = y at hall hge hmem
  have hsy := hsl y hmem
  obtain ⟨yo, yi, ya⟩ := y
  rw [zmi] at hall
  repeat (first | refine za5 ?_ | refine za0 rfl ?_ | refine za4 ?_ | refine za2 ?_ | refine zae ?_ | refine zab ?_ | refine zb6 rfl ?_)
  refine zc2 rfl rfl (Int.natCast_nonneg i) hge rfl ?_
  repeat (first | refine za5 ?_ | refine za0 rfl ?_ | refine za4 ?_ | refine za2 ?_ | refine za3 rfl ?_ | refine zaw rfl rfl rfl rfl ?_ | refine zap rfl rfl rfl rfl rfl rfl rfl ?_ | refine zbl ?_)
  refine zao (op := .mul) rfl rfl rfl ?_
  rw [show IntKind.wrap .i64 (2 * n) = 2 * n from wrap_small _ (by omega) (by omega)]
  have hc := zt9 _ hsy (2 * n)
  rw [zpx] at hc
  refine zas rfl rfl hc (fun h => Bool.noConfusion (show false = true from h)) ?_
  repeat (first | refine za5 ?_ | refine za0 rfl ?_ | refine za4 ?_ | refine za2 ?_ | refine za3 rfl ?_)
  refine zak rfl rfl rfl (fun h4 => ?_) fun h4 => ?_
  ·have h4 := bne_iff_ne.1 h4
   rw [if_neg h4] at hall
   repeat (first | refine za5 ?_ | refine za0 rfl ?_ | refine za4 ?_ | refine za2 ?_ | refine zb6 rfl ?_ | refine zaf ?_ | refine za6 ?_ | refine zah ?_ | refine za3 rfl ?_)
   refine zbq ?_
   repeat (first | refine za6 ?_ | refine zah ?_)
   refine zad ⟨.inr rfl, _, rfl, ?_⟩
   rw [hall]
   rfl
  ·have h4 : zd3 (.nd yo yi ya) (2 * n) = 0 := by simpa using h4
   rw [if_pos h4] at hall
   repeat (first | refine za0 rfl ?_ | refine za4 ?_ | refine za2 ?_ | refine zbe ?_ | refine zab ?_ | refine zbi rfl ?_ | refine za3 rfl ?_ | refine zao (op := .add) rfl rfl rfl ?_)
   exact zaz (show l.length - (i + 1) < l.length - i by omega) (zeb (.cons rfl (.same rfl) (.cons rfl (.same rfl) (.cons rfl (.same rfl) (.cons rfl (zjr (congrArg (AV.int .i64) (zb2 i (by omega))) rfl) .nil))))) ⟨i + 1, rfl, hlt, hall, rfl⟩
 ·have hi2 : i = l.length := by
   have := of_decide_eq_false h3
   rw [zaj] at this
   omega
  subst hi2
  rw [List.drop_length] at hall
  repeat (first | refine za5 ?_ | refine za4 ?_ | refine za2 ?_ | refine zbi rfl ?_ | refine zc0 ?_ | refine zan ?_)
  refine zdk ?_
  repeat (first | refine za5 ?_ | refine za0 rfl ?_ | refine za4 ?_ | refine za2 ?_ | refine zaf ?_ | refine zby ?_ | refine za3 rfl ?_)
  refine zad ⟨.inr rfl, _, rfl, ?_⟩
  rw [hall]
  rfl
def body67 : IC := .seq (.seq (.region [⟨(some 17), .mov (.t 5), none⟩,
  ⟨(some 18), .faddr 0 (.t 2), none⟩,
  ⟨(some 19), .load none (.t 18), none⟩,
  ⟨(some 20), .len false (.t 19), none⟩,
  ⟨(some 21), .bin .lss (.t 17) (.t 20), none⟩] none)
 (.cond (.t 21) (.skip)
 (.exit 0)))
 (.seq (.block 1 (.seq (.region [⟨(some 24), .faddr 0 (.t 2), none⟩,
  ⟨(some 25), .load none (.t 24), none⟩,
  ⟨(some 26), .mov (.t 5), none⟩,
  ⟨(some 27), .idxs 3 (.t 25) (.t 26), none⟩,
  ⟨(some 28), .load (some 3) (.t 27), none⟩,
  ⟨(some 29), .mov (.t 1), none⟩,
  ⟨(some 30), .bin .mul (.c (.int .i64 2)) (.t 29), none⟩,
  ⟨(some 31), .call (.c (.fn 116 [] [])) [(.t 28), (.t 30)], none⟩,
  ⟨(some 6), .mov (.t 31), none⟩] none)
 (.seq (.region [⟨(some 32), .mov (.t 6), none⟩,
  ⟨(some 33), .bin .neq (.t 32) (.c (.int .i64 0)), none⟩] none)
 (.cond (.t 33) (.seq (.region [⟨(some 34), .mov (.t 6), none⟩,
  ⟨(some 4), .mov (.t 34), none⟩] none)
 (.ret))
 (.skip)))))
 (.region [⟨(some 22), .mov (.t 5), none⟩,
  ⟨(some 23), .bin .add (.t 22) (.c (.int .i64 1)), none⟩,
  ⟨(some 5), .mov (.t 23), none⟩] none))
-- pneumatic/pneumaticref49.Check
def ic67 : IC := .seq (.region [⟨(some 2), .box (.t 0), none⟩,
  ⟨(some 4), .mov (.c (.int .i64 0)), none⟩] none)
 (.seq (.seq (.region [⟨(some 7), .mov (.t 1), none⟩,
  ⟨(some 8), .bin .lss (.t 7) (.c (.int .i64 1)), none⟩,
  ⟨(some 9), .mov (.t 8), none⟩,
  ⟨(some 10), .mov (.t 1), some (9, false)⟩,
  ⟨(some 11), .bin .gtr (.t 10) (.c (.int .i64 6)), some (9, false)⟩,
  ⟨(some 12), .pick (.t 9) (.c (.bool true)) (.t 11), none⟩] none)
 (.cond (.t 12) (.seq (.region [⟨(some 4), .mov (.c (.int .i64 2)), none⟩] none)
 (.ret))
 (.skip)))
 (.seq (.seq (.region [⟨(some 13), .faddr 0 (.t 2), none⟩,
  ⟨(some 14), .load none (.t 13), none⟩,
  ⟨(some 15), .len false (.t 14), none⟩,
  ⟨(some 16), .bin .gtr (.t 15) (.c (.int .i64 256)), none⟩] none)
 (.cond (.t 16) (.seq (.region [⟨(some 4), .mov (.c (.int .i64 5)), none⟩] none)
 (.ret))
 (.skip)))
 (.seq (.seq (.region [⟨(some 5), .mov (.c (.int .i64 0)), none⟩] none)
 (.block 0 (.loop body67)))
 (.seq (.region [⟨(some 4), .mov (.c (.int .i64 0)), none⟩] none)
 (.ret)))))
theorem fn67 : env0.fn 67 = some ⟨35, ic67, [.t 4]⟩ := by kernel_rfl
set_option maxHeartbeats 2000000 in
theorem gcheck29 (l : List Ex) (hsl : ∀ y ∈ l, Slim y) (n : Int) : PF Try.prog 67 [.agg [.vs (cXs l)], .int .i64 n] (.int .i64 (zc5 l n)) := by
 have hcl : (cXs l).length = l.length := zaj l
 refine zb1 env0_ok fn67 [(0, .agg [.vs (cXs l)]), (1, .int .i64 n)] (by show 2 ≤ 35; decide) rfl fun w0 N0 => ?_
 unfold ic67 zc5
 repeat (first | refine za5 ?_ | refine za0 rfl ?_ | refine za4 ?_ | refine za2 ?_ | refine za3 rfl ?_ | refine zcq rfl rfl ?_)
 refine zak rfl rfl rfl (fun h1 => ?_) fun h1 => ?_
 ·have h1 := of_decide_eq_true h1
  rw [if_pos (.inl h1)]
  repeat (first | refine za5 ?_ | refine za0 rfl ?_ | refine za4 ?_ | refine za2 ?_ | refine zb6 rfl ?_ | refine zaf ?_ | refine za6 ?_ | refine zdv rfl rfl ?_ | refine za3 rfl ?_ | refine zai rfl rfl ?_)
  exact zad ⟨.inr rfl, _, rfl, rfl⟩
 have h1 := of_decide_eq_false h1
 repeat (first | refine zc8 rfl ?_ | refine za3 rfl ?_)
 refine zak rfl rfl rfl (fun h2 => ?_) fun h2 => ?_
 ·have h2 := of_decide_eq_true h2
  rw [if_pos (.inr h2)]
  repeat (first | refine za5 ?_ | refine za0 rfl ?_ | refine za4 ?_ | refine za2 ?_ | refine zb6 rfl ?_ | refine zaf ?_ | refine za6 ?_ | refine za3 rfl ?_ | refine zac rfl rfl ?_)
  exact zad ⟨.inr rfl, _, rfl, rfl⟩
 have h2 := of_decide_eq_false h2
 rw [if_neg (fun h => h.elim h1 h2)]
 repeat (first | refine za5 ?_ | refine za0 rfl ?_ | refine za4 ?_ | refine za2 ?_ | refine zab ?_ | refine zbi rfl ?_ | refine zag rfl rfl ?_ | refine zaa rfl ?_ | refine zac rfl rfl ?_ | refine zbk rfl rfl ?_)
 refine zak rfl rfl rfl (fun h2 => ?_) fun h2 => ?_
 ·have h2 := of_decide_eq_true h2
  rw [if_pos (by omega)]
  repeat (first | refine za5 ?_ | refine za0 rfl ?_ | refine za4 ?_ | refine za2 ?_ | refine zb6 rfl ?_ | refine zaf ?_ | refine za6 ?_ | refine za3 rfl ?_)
  exact zad ⟨.inr rfl, _, rfl, rfl⟩
 have h2 := of_decide_eq_false h2
 rw [if_neg (by omega)]
 have hlen : l.length ≤ 256 := by omega
 repeat (first | refine za5 ?_ | refine za0 rfl ?_ | refine za4 ?_ | refine za2 ?_ | refine zae ?_ | refine zab ?_ | refine zbi rfl ?_ | refine za3 rfl ?_)
 refine zcj (fun mm S => ∃ i, mm = l.length - i ∧ i ≤ l.length ∧ zmi (2 * n) l = zmi (2 * n) (l.drop i) ∧
   S = st 35 [(1, .int .i64 n), (2, .mptr 0 0 0), (5, .int .i64 (i : Nat))] [(0, 0, .cells [.vs (cXs l)])] 1 1) l.length
  (zam (.cons rfl (.cons rfl (.cons rfl .nil)))) ⟨0, rfl, Nat.zero_le _, rfl, rfl⟩ ?_
 rintro mm S ⟨i, rfl, hi, hall, rfl⟩
 unfold body67
 repeat (first | refine za5 ?_ | refine za0 rfl ?_ | refine za3 rfl ?_ | refine zag rfl rfl ?_ | refine zaa rfl ?_ | refine zbk rfl rfl ?_)
 refine zak rfl rfl rfl (fun h3 => ?_) fun h3 => ?_
 ·have hlt : i < l.length := by
   have := of_decide_eq_true h3
   rw [zaj] at this
   omega
  have hdr : l.drop i = l[i] :: l.drop (i + 1) := List.drop_eq_getElem_cons hlt
  rw [hdr] at hall
  have hge := zee hlt
  have hmem : l[i] ∈ l := List.getElem_mem hlt
  generalize l[i] = y at hall hge hmem
  have hsy := hsl y hmem
  obtain ⟨yo, yi, ya⟩ := y
  rw [zmi] at hall
  repeat (first | refine za5 ?_ | refine za0 rfl ?_ | refine za4 ?_ | refine za2 ?_ | refine zae ?_ | refine zab ?_ | refine zb6 rfl ?_ | refine za3 rfl ?_ | refine zag rfl rfl ?_ | refine zaa rfl ?_)
  refine zc2 rfl rfl (Int.natCast_nonneg i) hge rfl ?_
  repeat (first | refine za3 rfl ?_ | refine zaw rfl rfl rfl rfl ?_)
  refine zao (op := .mul) rfl rfl rfl ?_
  rw [show IntKind.wrap .i64 (2 * n) = 2 * n from wrap_small _ (by omega) (by omega)]
  refine zas rfl rfl (check60 _ hsy (2 * n)) (fun h => Bool.noConfusion (show false = true from h)) ?_
  repeat (first | refine za5 ?_ | refine za0 rfl ?_ | refine za4 ?_ | refine za2 ?_ | refine za3 rfl ?_)
  refine zak rfl rfl rfl (fun h4 => ?_) fun h4 => ?_
  ·have h4 := bne_iff_ne.1 h4
   rw [if_neg h4] at hall
   repeat (first | refine za5 ?_ | refine za0 rfl ?_ | refine za4 ?_ | refine za2 ?_ | refine zb6 rfl ?_ | refine zaf ?_ | refine za6 ?_ | refine zah ?_ | refine za3 rfl ?_)
   refine zbq ?_
   repeat (first | refine za6 ?_ | refine zah ?_)
   refine zad ⟨.inr rfl, _, rfl, ?_⟩
   rw [hall]
   rfl
  ·have h4 : zd3 (.nd yo yi ya) (2 * n) = 0 := by simpa using h4
   rw [if_pos h4] at hall
   repeat (first | refine za0 rfl ?_ | refine za4 ?_ | refine za2 ?_ | refine zbe ?_ | refine zab ?_ | refine zbi rfl ?_ | refine za3 rfl ?_ | refine zao (op := .add) rfl rfl rfl ?_)
   rw [zb2 i (by omega)]
   exact zaz (show l.length - (i + 1) < l.length - i by omega) (zam (.cons rfl (.cons rfl (.cons rfl .nil)))) ⟨i + 1, rfl, hlt, hall, rfl⟩
 ·have hi2 : i = l.length := by
   have := of_decide_eq_false h3
   rw [zaj] at this
   omega
  subst hi2
  rw [List.drop_length] at hall
  repeat (first | refine za4 ?_ | refine za2 ?_ | refine zbi rfl ?_ | refine zc0 ?_ | refine zan ?_)
  refine zdk ?_
  repeat (first | refine za5 ?_ | refine za0 rfl ?_ | refine za4 ?_ | refine za2 ?_ | refine zaf ?_ | refine zby ?_ | refine za3 rfl ?_)
  refine zad ⟨.inr rfl, _, rfl, ?_⟩
  rw [hall]
  rfl
end Go.Proofs.Ytoiblgbaeglgoaa
namespace Go.Proofs.Ytoiblgbaeglgoaa
open Go Go.Am
def vsI (l : List Int) : AV := .vs (l.map fun z => [.int .i64 z])
def sw : List Int → List Bool
 | [] => []
 | z :: zs => (z == 0) :: (z == 2) :: sw zs
theorem zvl (a b : List Int) : sw (a ++ b) = sw a ++ sw b := by
 induction a with
 | nil => rfl
 | cons z zs ih => simp [sw, ih]
theorem znv (l : List Int) : (sw l).length = 2 * l.length := by
 induction l with
 | nil => rfl
 | cons z zs ih => simp only [sw, List.length_cons, ih]; omega
theorem zfl (l : List Int) (i : Nat) (h : i < l.length) : (l.map fun z => ([.int .i64 z] : List AV))[((i : Nat) : Int).toNat]? = some [.int .i64 l[i]] := by
 rw [Int.toNat_natCast, List.getElem?_map, List.getElem?_eq_getElem h]
 rfl
theorem zcv : ∀ l : List Bool, hasM.hasML (l.map AV.bool) = false
 | [] => rfl
 | b :: l => by
  have := zcv l
  simpa [hasM.hasML, hasM] using this
theorem zfv {S : AS} {d : Nat} (l : List Bool) (hl : Am.look 0 S.heap = some (0, .cells (l.map AV.bool))) : S.view (d + 2) (.ms 0 0 1 0 l.length none) = vsB l := by
 have hf : l.map AV.bool = (l.map fun b => ([.bool b] : List AV)).flatten := by
  clear hl
  induction l with
  | nil => rfl
  | cons b l ih => simp [ih]
 have := zvt (d := d + 1) (S := S) (id := 0) (st := 0) (sz := 1) (xs := l.map fun b => ([.bool b] : List AV)) hl hf (fun x hx => by obtain ⟨b, _, rfl⟩ := List.mem_map.1 hx; rfl)
 rw [List.length_map] at this
 rw [this]
 unfold vsB
 congr 1
 rw [List.map_map]
 exact List.map_congr_left fun _ _ => rfl
end Go.Proofs.Ytoiblgbaeglgoaa
namespace Go.Proofs.Ytoiblgbaeglgoaa
open Go Go.Am
def idxs (f : Ex → Bool) : Nat → List Ex → List Int
 | _, [] => []
 | i, y :: ys => if f y = true then (i : Int) :: idxs f (i + 1) ys else idxs f (i + 1) ys
theorem zb8 : ∀ l : List Int, hasM.hasML (l.map (AV.int .i64)) = false
 | [] => rfl
 | b :: l => by
  have := zb8 l
  simpa [hasM.hasML, hasM] using this
theorem zvs {S : AS} {d id sp : Nat} (l : List Int) (hl : Am.look id S.heap = some (sp, .cells (l.map (AV.int .i64)))) : S.view (d + 2) (.ms id sp 1 0 l.length none) = vsI l := by
 have hf : l.map (AV.int .i64) = (l.map fun b => ([.int .i64 b] : List AV)).flatten := by
  clear hl
  induction l with
  | nil => rfl
  | cons b l ih => simp [ih]
 have := zvt (d := d + 1) (S := S) (id := id) (st := sp) (sz := 1) (xs := l.map fun b => ([.int .i64 b] : List AV)) hl hf (fun x hx => by obtain ⟨b, _, rfl⟩ := List.mem_map.1 hx; rfl)
 rw [List.length_map] at this
 rw [this]
 unfold vsI
 congr 1
 rw [List.map_map]
 exact List.map_congr_left fun _ _ => rfl
end Go.Proofs.Ytoiblgbaeglgoaa
