/-
  R10, R11, R12, R13, R14, R15, R16, R17 in one text.; QC, R22 in one text.
-/
import Derived.Test.YtoiblgbaeglgoaaJX2
namespace Go.Proofs.Ytoiblgbaeglgoaa
open Go Go.Am
mutual
def szX : Ex → Int
 | .nd _ _ args => 1 + szL args
def szL : List Ex → Int
 | [] => 0
 | y :: ys => szX y + szL ys
end
mutual
theorem zls : ∀ x : Ex, 1 ≤ szX x
 | .nd op ix args => by
  rw [szX]
  have := zeo args
  omega
theorem zeo : ∀ l : List Ex, 0 ≤ szL l
 | [] => by rw [szL]; exact y2i _
 | y :: ys => by
  rw [szL]
  have := zls y
  have := zeo ys
  omega
end
theorem zmr : ∀ l : List Ex, (l.length : Int) ≤ szL l
 | [] => by rw [szL]; exact y2i _
 | y :: ys => by
  rw [szL, y0n]
  have := zls y
  have := zmr ys
  omega
mutual
theorem yam : ∀ x : Ex, szX x ≤ 256 → Thin x
 | .nd op ix args => fun h => by
  rw [szX] at h
  have := zmr args
  exact .nd (by omega) (zur args (by omega))
theorem zur : ∀ l : List Ex, szL l ≤ 256 → ∀ y ∈ l, Thin y
 | [] => fun _ y hy => absurd hy y0d
 | x :: xs => fun h y hy => by
  rw [szL] at h
  have h1 := zls x
  have h2 := zeo xs
  rcases y0m.1 hy with he | hm
  ·rw [he]
   exact yam x (by omega)
  ·exact zur xs (by omega) y hm
end
mutual
theorem cnt_eq (most : Int) (h : 0 ≤ most) : ∀ x : Ex, cnt most x = if szX x ≤ most then szX x else most + 1
 | .nd op ix args => by
  rw [cnt, szX]
  exact zxp most h 1 (by omega) (by omega) args
theorem zxp (most : Int) (h : 0 ≤ most) (n : Int) (h1 : 1 ≤ n) (h2 : n ≤ most + 1) : ∀ l : List Ex, zrk most n l = if n + szL l ≤ most then n + szL l else most + 1
 | [] => by
  rw [zrk, szL]
  split <;> omega
 | y :: ys => by
  rw [zrk, szL]
  have hy := zls y
  have hys := zeo ys
  split
  ·have e := cnt_eq (most - n) (by omega) y
   have b := zmh (most - n) (by omega) y
   rw [zxp most h _ (by omega) (by omega) ys]
   split at e <;> rw [e] <;> (repeat' split) <;> omega
  ·rw [if_neg (by omega)]
   omega
end
theorem zmk (m : Nat) (op ix : Int) (args : List Ex) : zes (m + 1) (.nd op ix args) = args.all (zes m) := by
 rw [zes]
 split
 ·rename_i h
  subst h
  cases args with
  | nil => rfl
  | cons a l => simp [zes]
 ·rfl
def zf5 (x : Ex) : Bool := decide (cnt 256 x ≤ 256) && zes 16 x
theorem zi9 (x : Ex) : zf5 x = true ↔ szX x ≤ 256 ∧ zes 16 x = true := by
 unfold zf5
 rw [y0h, decide_eq_true_iff, cnt_eq 256 (by omega)]
 constructor
 ·intro ⟨a, b⟩
  refine ⟨?_, b⟩
  split at a <;> omega
 ·intro ⟨a, b⟩
  exact ⟨by rw [if_pos a]; exact a, b⟩
mutual
theorem walkM : ∀ (x : Ex) (d n m : Int), 1 ≤ d → d ≤ 17 → 0 ≤ n → n ≤ 256 →
  if n + szX x ≤ 256 ∧ zes (17 - d).toNat x = true then ∃ m', zga zir d x (n, m) = .inl (n + szX x, m') else zga zir d x (n, m) = .inr ()
 | .nd op ix args => fun d n m hd h17 h0 hn => by
  rw [zga, szX]
  unfold zir
  have hs0 := zeo args
  by_cases hs : n + 1 > 256 ∨ d > 16
  ·rw [if_pos hs, if_neg]
   intro ⟨a, b⟩
   rcases hs with hs | hs
   ·omega
   ·rw [show (17 - d).toNat = 0 by omega] at b
    simp [zes] at b
  ·rw [if_neg hs, show (17 - d).toNat = (16 - d).toNat + 1 by omega, zmk, ← Int.add_assoc]
   exact walkLM args d (n + 1) (deepM m d) hd (by omega) (by omega) (by omega)
theorem walkLM : ∀ (l : List Ex) (d n m : Int), 1 ≤ d → d ≤ 16 → 0 ≤ n → n ≤ 256 →
  if n + szL l ≤ 256 ∧ l.all (zes (16 - d).toNat) = true then ∃ m', zhc zir d l (n, m) = .inl (n + szL l, m') else zhc zir d l (n, m) = .inr ()
 | [] => fun d n m hd h16 h0 hn => by
  rw [szL, zhc, if_pos ⟨by omega, rfl⟩, Int.add_zero]
  exact ⟨m, rfl⟩
 | y :: ys => fun d n m hd h16 h0 hn => by
  have hy := walkM y (d + 1) n m (by omega) (by omega) h0 hn
  rw [zhc, if_pos h16, szL]
  rw [show (17 - (d + 1)).toNat = (16 - d).toNat by omega] at hy
  have hp := zls y
  have hq := zeo ys
  by_cases hc : n + szX y ≤ 256 ∧ zes (16 - d).toNat y = true
  ·rw [if_pos hc] at hy
   obtain ⟨m', hy⟩ := hy
   rw [hy, y26, hc.2, Bool.true_and, ← Int.add_assoc]
   exact walkLM ys d (n + szX y) m' hd h16 (by omega) hc.1
  ·rw [if_neg hc] at hy
   rw [hy, if_neg]
   intro ⟨a, b⟩
   rw [y26, y0h] at b
   exact hc ⟨by omega, b.1⟩
end
mutual
theorem walkC (z : Int) : ∀ (x : Ex) (d : Int), 1 ≤ d → d ≤ 17 → zes (17 - d).toNat x = true → zga (zqw z) d x () = if nds z x = 0 then .inl () else .inr (nds z x)
 | .nd op ix args => fun d hd h17 hb => by
  have h16 : d ≤ 16 := by
   by_cases h : d ≤ 16
   ·exact h
   ·rw [show (17 - d).toNat = 0 by omega] at hb
    simp [zes] at hb
  rw [show (17 - d).toNat = (16 - d).toNat + 1 by omega, zmk] at hb
  rw [zga, nds]
  unfold zqw zzb
  by_cases h : zbv op ix args.length z = 0
  ·simp only [if_pos h]
   exact walkLC z args d hd h16 hb
  ·simp only [if_neg h]
theorem walkLC (z : Int) : ∀ (l : List Ex) (d : Int), 1 ≤ d → d ≤ 16 → l.all (zes (16 - d).toNat) = true → zhc (zqw z) d l () = if zw3 z l = 0 then .inl () else .inr (zw3 z l)
 | [] => fun d hd h16 hb => by rw [zhc, zw3, if_pos rfl]
 | y :: ys => fun d hd h16 hb => by
  rw [y26, y0h] at hb
  have hy := walkC z y (d + 1) (by omega) (by omega) (by rw [show (17 - (d + 1)).toNat = (16 - d).toNat by omega]; exact hb.1)
  rw [zhc, if_pos h16, hy, zw3]
  by_cases h : nds z y = 0
  ·simp only [if_pos h]
   exact walkLC z ys d hd h16 hb.2
  ·simp only [if_neg h]
end
def ze5 (x : Ex) (n : Int) : Int := if n < 0 ∨ n > 256 then 2 else if zf5 x = true then nds n x else 5
theorem ztc (x : Ex) (n : Int) : zmf x n = ze5 x n := by
 unfold zmf ze5
 split
 ·rfl
 ·have hw := walkM x 1 0 0 (by omega) (by omega) (by omega) (by omega)
  rw [Int.zero_add, show ((17 : Int) - 1).toNat = 16 from rfl] at hw
  by_cases hl : zf5 x = true
  ·rw [if_pos ((zi9 x).1 hl)] at hw
   obtain ⟨m', hw⟩ := hw
   rw [hw, if_pos hl]
   dsimp only
   rw [walkC n x 1 (by omega) (by omega) ((zi9 x).1 hl).2]
   by_cases h : nds n x = 0
   ·rw [if_pos h]; exact h.symm
   ·rw [if_neg h]
  ·rw [if_neg (fun h => hl ((zi9 x).2 h))] at hw
   rw [hw, if_neg hl]
-- pneumatic/pneumaticref05.Light
def ic74 : IC := .seq (.region [oM 1 (.box (.t 0)),
  oM 2 (.mov (.c (.bool false)))] none)
 (.seq (.region [oL 3 3 1,
  oM 4 (.call (.c (.fn 123 [] [])) [(.t 3), (.c (.int .i64 256))]),
  oM 5 (.bin .leq (.t 4) (.c (.int .i64 256))),
  oT 6 5,
  ⟨(some 7), .load (some 3) (.t 1), some (6, true)⟩,
  ⟨(some 8), .call (.c (.fn 124 [] [])) [(.t 7), (.c (.int .i64 16))], some (6, true)⟩,
  oM 9 (.pick (.t 6) (.t 8) (.c (.bool false))),
  oT 2 9] none)
 (.ret))
theorem fn74 : env0.fn 74 = some ⟨10, ic74, [.t 2]⟩ := by kernel_rfl
theorem zz3 (x : Ex) (hs : Slim x) : PF Try.prog 74 [.agg (cX x)] (.bool (zf5 x)) := by
 have h72 := count72 _ x 256 (y0c _) hs (by decide) (by decide)
 have h73 := deep73 16 x 16 rfl (by decide) hs
 have hl : zf5 x = (decide (cnt 256 x ≤ 256) && zes 16 x) := rfl
 rw [hl]
 obtain ⟨op, ix, args⟩ := x
 refine zb1 env0_ok fn74 [(0, .agg (cX (.nd op ix args)))] (by show 1 ≤ 10; decide) rfl fun w0 N0 => ?_
 unfold ic74
 refine zsr rfl (zc1 rfl rfl (za1 rfl (onr rfl (zam rfl rfl rfl rfl ?_))))
 refine zap rfl rfl h72 noC ?_
 refine zaq rfl rfl rfl (fun h1 => ?_) fun h1 => ?_
 ·rw [h1, Bool.true_and]
  refine za1 rfl (zbc rfl (zam rfl rfl rfl rfl (zbc rfl ?_)))
  refine zap rfl rfl h73 noC ?_
  refine zat rfl rfl (za1 rfl (onu (zak ?_)))
  exact zaf ⟨.inr rfl, _, rfl, rfl⟩
 ·rw [h1, Bool.false_and]
  refine za1 rfl (zbz rfl rfl (zbz rfl rfl (zal rfl rfl (za1 rfl (onu (zak ?_))))))
  exact zaf ⟨.inr rfl, _, rfl, rfl⟩
-- pneumatic/pneumaticref05.Check
def ic116 : IC := .seq (.region [oM 2 (.box (.t 0)),
  oM 4 (.mov (.c (.int .i64 0)))] none)
 (.seq (.seq (.region [oT 5 1,
  oM 6 (.bin .lss (.t 5) (.c (.int .i64 0))),
  oT 7 6,
  ⟨(some 8), .mov (.t 1), some (7, false)⟩,
  ⟨(some 9), .bin .gtr (.t 8) (.c (.int .i64 256)), some (7, false)⟩,
  oM 10 (.pick (.t 7) (.c (.bool true)) (.t 9))] none)
 (.cond (.t 10) (.seq (.region [oM 4 (.mov (.c (.int .i64 2)))] none)
 (.ret))
 (.skip)))
 (.seq (.seq (.region [oL 11 3 2,
  oM 12 (.call (.c (.fn 74 [] [])) [(.t 11)]),
  oM 13 (.un .not (.t 12))] none)
 (.cond (.t 13) (.seq (.region [oM 4 (.mov (.c (.int .i64 5)))] none)
 (.ret))
 (.skip)))
 (.seq (.region [oL 14 3 2,
  oT 15 1,
  oM 16 (.call (.c (.fn 147 [] [])) [(.t 14), (.t 15)]),
  oT 4 16] none)
 (.ret))))
theorem fn116 : env0.fn 116 = some ⟨17, ic116, [.t 4]⟩ := by kernel_rfl
theorem check60 (x : Ex) (hs : Slim x) (n : Int) : PF Try.prog 116 [.agg (cX x), .int .i64 n] (.int .i64 (ze5 x n)) := by
 have h47 := zz3 x hs
 have h89 : zf5 x = true → PF Try.prog 147 [.agg (cX x), .int .i64 n] (.int .i64 (nds n x)) := fun h => nodes89 n _ x (y0c _) (yam x ((zi9 x).1 h).1)
 obtain ⟨op, ix, args⟩ := x
 refine zb1 env0_ok fn116 [(0, .agg (cX (.nd op ix args))), (1, .int .i64 n)] (by show 2 ≤ 17; decide) rfl fun w0 N0 => ?_
 unfold ic116 ze5
 refine zsr rfl (zc1 rfl rfl (za1 rfl (onu (za8 (zsr rfl (za1 rfl ?_))))))
 refine zaq rfl rfl rfl (fun h1 => ?_) fun h1 => ?_
 ·rw [if_pos (.inl (of_decide_eq_true h1))]
  refine za1 rfl (zbz rfl rfl (zbz rfl rfl (zat rfl rfl (onu (zb4 rfl (zsr rfl (za1 rfl (onu (zak (za4 ?_))))))))))
  exact zaf ⟨.inr rfl, _, rfl, rfl⟩
 refine za1 rfl (zbc rfl (za1 rfl (zbc rfl ?_)))
 refine zaq rfl rfl rfl (fun h2 => ?_) fun h2 => ?_
 ·rw [if_pos (.inr (of_decide_eq_true h2))]
  refine zal rfl rfl (onu (zb4 rfl (zsr rfl (za1 rfl (onu (zak (za4 ?_)))))))
  exact zaf ⟨.inr rfl, _, rfl, rfl⟩
 rw [if_neg (fun h => h.elim (of_decide_eq_false h1) (of_decide_eq_false h2))]
 refine zal rfl rfl (onu (zb8 rfl (zab (zaa (za8 (zsr rfl (zam rfl rfl rfl rfl ?_)))))))
 cases hl : zf5 (.nd op ix args) with
 | true =>
  rw [hl] at h47
  rw [if_pos rfl]
  refine zap rfl rfl h47 noC ?_
  refine zfr rfl rfl (onu (zb8 rfl (zab (zaa (zsr rfl (zam rfl rfl rfl rfl (za1 rfl ?_)))))))
  refine zap rfl rfl (h89 hl) noC ?_
  refine za1 rfl (onu (zak ?_))
  exact zaf ⟨.inr rfl, _, rfl, rfl⟩
 | false =>
  rw [hl] at h47
  rw [if_neg (by simp)]
  refine zap rfl rfl h47 noC ?_
  refine zfr rfl rfl (onu (zb4 rfl (zsr rfl (za1 rfl (onu (zak (za4 ?_)))))))
  exact zaf ⟨.inr rfl, _, rfl, rfl⟩
end Go.Proofs.Ytoiblgbaeglgoaa
namespace Go.Proofs.Ytoiblgbaeglgoaa
open Go Go.Am
mutual
def zdc (v : List Bool) : Ex → Bool
 | .nd op ix args => if op = 0 then ix == 1 else if op = 1 then v.getD ix.toNat false else if op = 2 then !(zj5 v args).headD false else if op = 3 then (zj5 v args).all id else (zj5 v args).any id
def zj5 (v : List Bool) : List Ex → List Bool
 | [] => []
 | y :: ys => zdc v y :: zj5 v ys
end
theorem zo7 (v : List Bool) : ∀ l : List Ex, zj5 v l = l.map (zdc v)
 | [] => by simp [zj5]
 | y :: ys => by simp [zj5, zo7 v ys]
def vsB (v : List Bool) : AV := .vs (v.map fun b => [.bool b])
theorem nds_args {n op ix : Int} {args : List Ex} (h : nds n (.nd op ix args) = 0) : zbv op ix args.length n = 0 ∧ ∀ y ∈ args, nds n y = 0 := by
 rw [nds] at h
 split at h
 ·rename_i h1
  refine ⟨h1, ?_⟩
  clear h1
  induction args with
  | nil => exact fun _ hy => absurd hy y0d
  | cons y ys ih =>
   rw [zw3] at h
   split at h
   ·rename_i h2
    intro z hz
    rcases y0m.1 hz with rfl | hm
    ·exact h2
    ·exact ih h z hm
   ·rename_i h2; exact absurd h h2
 ·rename_i h1; exact absurd h h1
theorem nodeV_ok {op ix k n : Int} (h : zbv op ix k n = 0) : 0 ≤ op ∧ op < 5 ∧ zbg op ≤ k ∧ k ≤ zcd op ∧ 0 ≤ ix ∧ ix ≤ zcf op n := by
 unfold zbv at h
 split at h
 ·exact absurd h (by decide)
 ·split at h
  ·exact absurd h (by decide)
  ·split at h
   ·exact absurd h (by decide)
   ·omega
theorem vs_get (v : List Bool) (i : Nat) (h : i < v.length) : (v.map fun b => ([.bool b] : List AV))[i]? = some [.bool (v.getD i false)] := by
 rw [y0i, y07 h, y06, y07 h]
 rfl
end Go.Proofs.Ytoiblgbaeglgoaa
namespace Go.Proofs.Ytoiblgbaeglgoaa
open Go Go.Am
def zxb : IC := .seq (.region [oM 10 (.bin .lss (.t 9) (.t 8))] none)
 (.seq (.cond (.t 10) (.skip)
 (.exit 0))
 (.seq (.block 1 (.seq (.region [oM 11 (.idxs 3 (.t 7) (.t 9)),
  oL 12 3 11,
  oM 5 (.alloc [.int .i64 0, .int .i64 0, .nils]),
  ⟨none, .store 3 (.t 5) (.t 12), none⟩] none)
 (.seq (.region [oT 13 0,
  oL 14 3 5,
  oN 15 2,
  oM 16 (.call (.c (.fn 158 [] [])) [(.t 14), (.t 15)]),
  oM 17 (.call (.t 13) [(.t 16)]),
  oM 18 (.un .not (.t 17))] none)
 (.cond (.t 18) (.ret)
 (.skip)))))
 (.region [oM 19 (.bin .add (.t 9) (.c (.int .i64 1))),
  oT 9 19] none)))
-- pneumatic/boolexp.eval$1
def ic168 : IC := .seq (.region [oF 6 2 1,
  oN 7 6,
  oM 8 (.len false (.t 7)),
  oM 9 (.mov (.c (.int .i64 0)))] none)
 (.block 0 (.loop zxb))
theorem fn168 : env0.fn 168 = some ⟨20, ic168, []⟩ := by kernel_rfl
def tabE : Tab := [
 (171, [
  ([.bool false], .fn 174 [] [.vptr [.bool false]]),
  ([.bool true], .fn 174 [] [.vptr [.bool true]])])]
theorem tabE_ok : TabOk Try.prog tabE := TabOk.of_run (env0_ok.tab TabOk.nil (pure := [])) (n := 60) (by kernel_rfl)
theorem every111 : PF Try.prog 171 [.bool false] (.fn 174 [] [.vptr [.bool false]]) := tabE_ok _ (y05 ..) _ (y05 ..)
section
variable {σ τ : Type} {step : σ → Bool → σ ⊕ τ} {M : Nat → Prop} {I : σ → HS → Prop} {J : τ → HS → Prop}
def zo1 (step : σ → Bool → σ ⊕ τ) : List Bool → σ → σ ⊕ τ
 | [], s => .inl s
 | b :: l, s => match step s b with
  | .inl s' => zo1 step l s'
  | .inr t => .inr t
set_option maxHeartbeats 2000000 in
theorem seq110 {w0 : World} {N0 id sp : Nat} (v : List Bool) (op ix : Int) (args : List Ex) (hlen : args.length ≤ 256) (hev : ∀ y ∈ args, PF Try.prog 158 [.agg (cX y), vsB v] (.bool (zdc v y))) (hloc : Local M I) (hy : ∀ s b H, I s H → CT Try.prog w0 N0 (.yield id sp) [.bool b] H (zwb M I J H (step s b))) (H : HS) (s : σ) (hI : I s H) :
  FT Try.prog w0 N0 168 [.yield id sp, .vptr (cX (.nd op ix args)), .vptr [vsB v]] H fun _ H' => Keep M H H' ∧ match zo1 step (args.map (zdc v)) s with
   | .inl s' => I s' H'
   | .inr t => J t H' := by
 refine zep env0_ok fn168 [(0, .yield id sp), (1, .vptr (cX (.nd op ix args))), (2, .vptr [vsB v])] (by show 3 ≤ 20; decide) rfl ?_
 unfold ic168
 refine zsr rfl (zaw rfl rfl rfl (za7 rfl rfl (zbd rfl rfl (za1 rfl (onu (zac ?_))))))
 refine zbu (fun m S => ∃ i s' H', m = args.length - i ∧ i ≤ args.length ∧ zo1 step (args.map (zdc v)) s = zo1 step ((args.drop i).map (zdc v)) s' ∧ I s' H' ∧ Keep M H H' ∧
   S = st 20 [(0, .yield id sp), (2, .vptr [vsB v]), (7, .vs (cXs args)), (8, .int .i64 (cXs args).length), (9, .int .i64 (i : Nat))] H'.heap H'.next H'.clk) args.length
  (zan (.cons rfl (.cons rfl (.cons rfl (.cons rfl (.cons rfl .nil)))))) ⟨0, s, H, rfl, y0t _, rfl, hI, Keep.refl M H, rfl⟩ ?_
 rintro m S ⟨i, s', H', rfl, hi, hwl, hI', hK', rfl⟩
 unfold zxb
 refine zsr rfl ?_
 refine zaq rfl rfl rfl (fun h1 => ?_) fun h1 => ?_
 ·have hlt : i < args.length := by
   have := of_decide_eq_true h1
   rw [zb0] at this
   omega
  have hd : args.drop i = args[i] :: args.drop (i + 1) := y0g hlt
  rw [hd, y1h] at hwl
  have hge := zf9 hlt
  have hmem : args[i] ∈ args := y0y hlt
  generalize args[i] = y at hwl hge hmem
  have hevy := hev y hmem
  obtain ⟨yo, yi, ya⟩ := y
  refine onu (za8 (zb4 rfl (zab (zaa (za8 (zac (zsr rfl ?_)))))))
  refine zbh rfl rfl (y1b i) hge rfl ?_
  refine zam rfl rfl rfl rfl (zau ?_)
  refine zad rfl rfl rfl rfl zar rfl rfl ?_
  rw [zbr]
  refine onr rfl (za1 rfl ?_)
  refine zcu rfl zar (y0k _) rfl rfl ?_
  refine za7 rfl rfl ?_
  refine zap rfl rfl hevy noC ?_
  refine zsb _ rfl rfl (hy s' (zdc v (.nd yo yi ya)) ⟨_, _, _⟩ (hloc.new hI' _ _)) (fun _ _ _ _ hm => absurd hm y0d) fun v2 H3 hF3 => ?_
  obtain ⟨hK3, hF3⟩ := hF3
  have hK4 : Keep M H H3 := hK'.trans ((Keep.new M H' _).trans hK3)
  cases hst : step s' (zdc v (.nd yo yi ya)) with
  | inr t =>
   rw [hst] at hF3
   obtain ⟨rfl, hJ⟩ := hF3
   refine zfr rfl rfl (onu (zb4 rfl (zak (zag (za4 ?_)))))
   refine zbb ?_
   refine zag ?_
   refine zaf ⟨.inr rfl, _, rfl, hK4, ?_⟩
   simp only [hwl, zo1, hst]
   exact hJ
  | inl s2 =>
   rw [hst] at hF3
   obtain ⟨rfl, hI2⟩ := hF3
   refine zfr rfl rfl (onu (zb8 rfl (zab (zb7 (zaa (za5 rfl (zb6 (op := .add) rfl rfl rfl (za1 rfl (zai ?_)))))))))
   rw [zas i (by omega)]
   exact zav (show args.length - (i + 1) < args.length - i by omega) (zan (.cons rfl (.cons rfl (.cons rfl (.cons rfl (.cons rfl .nil)))))) ⟨i + 1, s2, H3, rfl, hlt, by rw [hwl]; simp only [zo1, hst], hI2, hK4, rfl⟩
 ·have hi2 : i = args.length := by
   have := of_decide_eq_false h1
   rw [zb0] at this
   omega
  refine onu (za8 (zb8 rfl (zbm (zao ?_))))
  refine zcn ?_
  refine zbl ?_
  refine zaf ⟨.inl rfl, _, rfl, hK', ?_⟩
  subst hi2
  rw [y0s] at hwl
  simp only [hwl, List.map_nil, zo1]
  exact hI'
end
noncomputable def zv1 : Code := match env0.fn 174 with
 | some i => ((zbs i.ic).headD (.skip, .skip)).1
 | none => .skip
noncomputable def zv5 : Code := match env0.fn 174 with
 | some i => ((zbs i.ic).headD (.skip, .skip)).2
 | none => .skip
def zww : IC := .region [oT 4 6] none
def zre : IC := .block 1 (.seq (.region [oT 7 4,
  oN 8 1,
  oM 9 (.eqb true (.t 7) (.t 8))] none)
 (.cond (.t 9) (.seq (.region [⟨none, .store 1 (.t 3) (.c (.bool false)), none⟩] none)
 (.ret))
 (.skip)))
-- pneumatic/boolexp.every$1
noncomputable def ic174 : IC := .seq (.region [oM 3 (.alloc [.bool false])] none)
 (.seq (.seq (.region [oT 5 0] none)
 (.block 0 (.rangeFunc (.t 5) [6] zv1 zv5 zww zre)))
 (.seq (.region [⟨none, .store 1 (.t 3) (.c (.bool true)), none⟩] none)
 (.ret)))
theorem fn174 : env0.fn 174 = some ⟨10, ic174, [.cell 3 none]⟩ := by kernel_rfl
def stepE (b : Bool) (_ : Unit) (r : Bool) : Unit ⊕ Unit := if r = b then .inl () else .inr ()
theorem foldE (b : Bool) : ∀ l : List Bool, zo1 (stepE b) l () = if l.all (· == b) = true then .inl () else .inr ()
 | [] => rfl
 | r :: l => by
  rw [zo1, y26]
  unfold stepE
  cases r <;> cases b <;> first | exact foldE _ l | rfl
structure I115 (ltm : List (Nat × AV)) (_ : Unit) (H : HS) : Prop where
 nx : 3 ≤ H.next
 h2 : Am.look 2 H.heap = some (2, .loop .ready none 10 (zcz ltm) [6] zv1 zv5 (1, 1))
 h1 : Am.look 1 H.heap = some (1, .deferred)
 h0 : Am.look 0 H.heap = some (0, .cells [.bool false])
structure J115 (_ : Unit) (H : HS) : Prop where
 nx : 3 ≤ H.next
 h2 : ∃ tm, Am.look 2 H.heap = some (2, .loop .done (some .ret) 10 tm [6] zv1 zv5 (1, 1))
 h1 : Am.look 1 H.heap = some (1, .deferred)
 h0 : Am.look 0 H.heap = some (0, .cells [.bool false])
theorem local115 (ltm : List (Nat × AV)) : Local (fun i => i < 3) (I115 ltm) :=
 ⟨fun s H h i hi => y0v hi h.nx, fun s H H' h hn hl =>
  ⟨y0q h.nx hn, (hl 2 (by decide)).trans h.h2, (hl 1 (by decide)).trans h.h1, (hl 0 (by decide)).trans h.h0⟩⟩
set_option maxHeartbeats 2000000 in
theorem yield115 {w0 : World} {N0 : Nat} (ltm : List (Nat × AV)) (b : Bool) (g1 : zbt (.t 1) ltm = some (.vptr [.bool b])) (g3 : zbt (.t 3) ltm = some (.mptr 0 0 0)) (ha : Com Try.prog zv1 zww) (hb : Com Try.prog zv5 zre) (s : Unit) (r : Bool) (H : HS) (h : I115 ltm s H) :
  CT Try.prog w0 N0 (.yield 2 2) [.bool r] H (zwb (fun i => i < 3) (I115 ltm) J115 H (stepE b s r)) := by
 obtain ⟨nx, h2, h1, h0⟩ := h
 refine zi1 (l0 := (6, .bool r) :: ltm) h2 ha hb rfl (by decide) rfl ?_
 unfold zww
 refine za5 rfl (za1 rfl (zai ?_))
 refine zaf ⟨rfl, _, rfl, ?_⟩
 unfold zre
 refine zac (zsr rfl (za1 rfl ?_))
 refine za7 g1 rfl ?_
 cases r <;> cases b
 all_goals repeat (first | refine za8 ?_ | refine za5 rfl ?_ | refine zai ?_ | refine zaa ?_ | refine zb7 ?_ | refine zab ?_ | refine zb4 rfl ?_ | refine zb8 rfl ?_ | refine zzf rfl rfl rfl ?_ | refine zze rfl rfl rfl ?_)
 all_goals first
  | (
    refine zad (sp := 0) (cs := [.bool false]) g3 rfl rfl rfl (by rw [za0, if_neg (by decide)]; exact h0) rfl rfl ?_
    refine onu (zak (zag ?_))
    refine zaf ⟨10, zcz ltm, [6], zv1, zv5, (1, 1), ?_, some .ret, rfl, ⟨y0c _, y0c _, fun i hi hj => ?_⟩, ?_⟩
    ·dsimp only [st]
     rw [za0, if_neg (by decide), za0, if_pos rfl]
    ·dsimp only [st]
     rw [za0, if_neg (by omega), za0, if_neg (by omega), za0, if_neg (by omega)]
    ·refine ⟨rfl, nx, ⟨zcz ltm, ?_⟩, ?_, ?_⟩
     ·dsimp only [st]
      rw [za0, if_pos rfl]; rfl
     ·dsimp only [st]
      rw [za0, if_neg (by decide), za0, if_neg (by decide), za0, if_neg (by decide)]; exact h1
     ·dsimp only [st]
      rw [za0, if_neg (by decide), za0, if_pos rfl]; rfl)
  | (
    refine zaf ⟨10, zcz ltm, [6], zv1, zv5, (1, 1), ?_, none, rfl, ⟨y0c _, y0c _, fun i hi hj => ?_⟩, ?_⟩
    ·dsimp only [st]
     rw [za0, if_pos rfl]
    ·dsimp only [st]
     rw [za0, if_neg (by omega), za0, if_neg (by omega)]
    ·refine ⟨rfl, nx, ?_, ?_, ?_⟩
     ·dsimp only [st]
      rw [za0, if_pos rfl]; rfl
     ·dsimp only [st]
      rw [za0, if_neg (by decide), za0, if_neg (by decide)]; exact h1
     ·dsimp only [st]
      rw [za0, if_neg (by decide), za0, if_neg (by decide)]; exact h0)
set_option maxHeartbeats 2000000 in
theorem zny (b : Bool) (v : List Bool) (op ix : Int) (args : List Ex) (hlen : args.length ≤ 256) (hev : ∀ y ∈ args, PF Try.prog 158 [.agg (cX y), vsB v] (.bool (zdc v y))) :
  PF Try.prog 174 [.fn 168 [] [.vptr (cX (.nd op ix args)), .vptr [vsB v]], .vptr [.bool b]] (.bool ((args.map (zdc v)).all (· == b))) := by
 refine zb1 env0_ok fn174 [(0, .fn 168 [] [.vptr (cX (.nd op ix args)), .vptr [vsB v]]), (1, .vptr [.bool b])] (by show 2 ≤ 10; decide) rfl fun w0 N0 => ?_
 unfold ic174
 refine zsr rfl (zau (onu (za8 (zsr rfl (za1 rfl (onu (zac ?_)))))))
 refine zgu (.inl rfl) rfl fun ha hb => (seq110 v op ix args hlen hev (local115 _) (fun s r H h => yield115 _ b rfl rfl ha hb s r H h) ⟨_, _, _⟩ () ⟨y0c _, rfl, rfl, rfl⟩).mono fun v2 H2 hF => ?_
 obtain ⟨hK, hF⟩ := hF
 rw [foldE] at hF
 cases hall : (args.map (zdc v)).all (· == b) with
 | true =>
  rw [hall, if_pos rfl] at hF
  obtain ⟨nx, h2, h1, h0⟩ := hF
  refine ⟨_, _, .normal, _, _, _, _, _, _, h2, by simp, rfl, fun z hz => ?_, ?_⟩
  ·obtain rfl := y0e.1 hz
   rw [za3, if_neg (by decide)]; exact h1
  ·refine zb7 (zaa (zsr rfl ?_))
   refine zad (sp := 0) (cs := [.bool false]) rfl rfl rfl rfl (by rw [za3, if_neg (by decide)]; exact h0) rfl rfl ?_
   refine onu (zak ?_)
   refine zaf ⟨.inr rfl, .bool true, zim (zd3 3) (zc4 (sp := 0) (cs := [.bool true]) ?_ ?_), rfl⟩
   ·show Am.look 0 (zbe 1 (zax 0 _ (zbe 2 H2.heap))) = _
    rw [za3, if_neg (by decide), za0, if_pos rfl]; rfl
   ·show 0 < H2.next; omega
 | false =>
  rw [hall, if_neg (by simp)] at hF
  obtain ⟨nx, ⟨tm, h2⟩, h1, h0⟩ := hF
  refine ⟨_, _, .ret, _, _, _, _, _, _, h2, by simp, rfl, fun z hz => ?_, ?_⟩
  ·obtain rfl := y0e.1 hz
   rw [za3, if_neg (by decide)]; exact h1
  ·refine zag (za4 ?_)
   refine zaf ⟨.inr rfl, .bool false, zim (zd3 3) (zc4 (sp := 0) (cs := [.bool false]) ?_ ?_), rfl⟩
   ·show Am.look 0 (zbe 1 (zbe 2 H2.heap)) = _
    rw [za3, if_neg (by decide), za3, if_neg (by decide)]; exact h0
   ·show 0 < H2.next; omega
-- pneumatic/boolexp.shapes$1
def ic172 : IC := .seq (.region [oM 2 (.mov (.c (.bool false)))] none)
 (.seq (.region [oM 3 (.call (.c (.fn 171 [] [])) [(.c (.bool false))]),
  oT 4 0,
  oM 5 (.call (.t 3) [(.t 4)]),
  oM 6 (.un .not (.t 5)),
  oT 2 6] none)
 (.ret))
theorem fn172 : env0.fn 172 = some ⟨7, ic172, [.t 2]⟩ := by kernel_rfl
theorem some112 (v : List Bool) (op ix : Int) (args : List Ex) (hlen : args.length ≤ 256) (hev : ∀ y ∈ args, PF Try.prog 158 [.agg (cX y), vsB v] (.bool (zdc v y))) :
  PF Try.prog 172 [.fn 168 [] [.vptr (cX (.nd op ix args)), .vptr [vsB v]]] (.bool (!(args.map (zdc v)).all (· == false))) := by
 refine zb1 env0_ok fn172 [(0, .fn 168 [] [.vptr (cX (.nd op ix args)), .vptr [vsB v]])] (by show 1 ≤ 7; decide) rfl fun w0 N0 => ?_
 unfold ic172
 refine zsr rfl (za1 rfl (onr rfl ?_))
 refine zap rfl rfl every111 noC ?_
 refine za1 rfl ?_
 refine zjc rfl rfl rfl (zny false v op ix args hlen hev) noC ?_
 refine zfr rfl rfl (za1 rfl (onu (zak ?_)))
 exact zaf ⟨.inr rfl, _, rfl, rfl⟩
end Go.Proofs.Ytoiblgbaeglgoaa
namespace Go.Proofs.Ytoiblgbaeglgoaa
open Go Go.Am
-- pneumatic/boolexp.eval
def ic158 : IC := .seq (.region [oM 2 (.box (.t 0)),
  oM 3 (.box (.t 1)),
  oM 4 (.mov (.c (.bool false)))] none)
 (.seq (.seq (.region [oF 5 0 2,
  oN 6 5] none)
 (.block 0 (.seq (.region [oM 8 (.bin .eql (.t 6) (.c (.int .i64 0))),
  oT 7 8] none)
 (.cond (.t 7) (.seq (.region [oF 9 1 2,
  oN 10 9,
  oM 11 (.bin .eql (.t 10) (.c (.int .i64 1))),
  oT 4 11] none)
 (.ret))
 (.seq (.region [oM 13 (.bin .eql (.t 6) (.c (.int .i64 1))),
  oT 12 13] none)
 (.cond (.t 12) (.seq (.region [oN 14 3,
  oF 15 1 2,
  oN 16 15,
  oM 17 (.idxs 1 (.t 14) (.t 16)),
  oN 18 17,
  oT 4 18] none)
 (.ret))
 (.skip)))))))
 (.seq (.region [oM 19 (.call (.c (.fn 167 [] [])) []),
  oF 20 0 2,
  oN 21 20,
  oM 22 (.idxagg 5 3 true (.t 19) (.t 21)),
  oM 23 (.field 2 none (.t 22)),
  oM 24 (.mkfn 168 [] [(.t 2), (.t 3)]),
  oM 25 (.call (.t 23) [(.t 24)]),
  oT 4 25] (some [[], [], [1], [0, 2], [3], [], [4, 5, 0], [6, 6, 0, 1, 2, 3, 4, 5, 6]]))
 (.ret)))
theorem fn158 : env0.fn 158 = some ⟨26, ic158, [.t 4]⟩ := by kernel_rfl
theorem zuw (a : Bool) : ([a].all (· == false)) = !a := by cases a <;> rfl
theorem all_true (l : List Bool) : l.all (· == true) = l.all id := by
 induction l with
 | nil => rfl
 | cons a l ih => rw [y26, y26, ih]; cases a <;> rfl
theorem zwq (l : List Bool) : (!l.all (· == false)) = l.any id := by
 induction l with
 | nil => rfl
 | cons a l ih => rw [y26, List.any_cons, ← ih]; cases a <;> simp
set_option maxHeartbeats 4000000 in
theorem eval100 (v : List Bool) : ∀ (q : Nat) (x : Ex), SizeOf.sizeOf x ≤ q → nds v.length x = 0 → PF Try.prog 158 [.agg (cX x), vsB v] (.bool (zdc v x)) := by
 intro q
 induction q with
 | zero => intro x hq; cases x; simp at hq
 | succ q ih =>
 intro x hq hs
 obtain ⟨op, ix, args⟩ := x
 obtain ⟨hn, hch⟩ := nds_args hs
 obtain ⟨o0, o5, kl, km, i0, im⟩ := nodeV_ok hn
 have hlen : args.length ≤ 256 := by
  unfold zcd at km
  (repeat' split at km) <;> omega
 have hev : ∀ y ∈ args, PF Try.prog 158 [.agg (cX y), vsB v] (.bool (zdc v y)) := fun y hy => ih y (by have := zuq (op := op) (ix := ix) hy; omega) (hch y hy)
 have hop : op = 0 ∨ op = 1 ∨ op = 2 ∨ op = 3 ∨ op = 4 := by omega
 have hd : zdc v (.nd op ix args) = if op = 0 then ix == 1 else if op = 1 then v.getD ix.toNat false else if op = 2 then !(zj5 v args).headD false else if op = 3 then (zj5 v args).all id else (zj5 v args).any id := by rw [zdc]
 rw [hd]
 refine zb1 env0_ok fn158 [(0, .agg (cX (.nd op ix args))), (1, vsB v)] (by show 2 ≤ 26; decide) rfl fun w0 N0 => ?_
 unfold ic158
 rcases hop with rfl | rfl | rfl | rfl | rfl
 ·rw [if_pos rfl]
  repeat (first | refine za8 ?_ | refine za5 rfl ?_ | refine zai ?_ | refine zaa ?_ | refine zac ?_ | refine zb4 rfl ?_ | refine za1 rfl ?_ | refine za7 rfl rfl ?_ | refine za9 rfl ?_ | refine zc1 rfl rfl ?_ | refine zby rfl rfl rfl ?_)
  refine zaq rfl rfl rfl (fun h1 => ?_) fun h1 => ?_
  ·rw [h1]
   refine za1 rfl (onu (zak (zag (za4 ?_))))
   exact zaf ⟨.inr rfl, _, rfl, rfl⟩
  ·rw [h1]
   refine za1 rfl (onu (zak (zag (za4 ?_))))
   exact zaf ⟨.inr rfl, _, rfl, rfl⟩
 ·rw [if_neg (by decide), if_pos rfl]
  repeat (first | refine za8 ?_ | refine za5 rfl ?_ | refine zai ?_ | refine zaa ?_ | refine zac ?_ | refine zb4 rfl ?_ | refine zb8 rfl ?_ | refine za1 rfl ?_ | refine za7 rfl rfl ?_ | refine za9 rfl ?_ | refine zc1 rfl rfl ?_ | refine zby rfl rfl rfl ?_ | refine zci rfl rfl rfl ?_)
  have hi : ix.toNat < v.length := by
   simp [zcf] at im
   omega
  refine zbh rfl rfl i0 (vs_get v _ hi) rfl ?_
  refine za7 rfl rfl (za1 rfl (onu (zak (zag (za4 ?_)))))
  exact zaf ⟨.inr rfl, _, rfl, rfl⟩
 ·rw [if_neg (by decide), if_neg (by decide), if_pos rfl]
  have h1 : args.length = 1 := by simp [zbg, zcd] at kl km; omega
  have heq : (args.map (zdc v)).all (· == false) = !(zj5 v args).headD false := by
   obtain ⟨y, rfl⟩ := List.length_eq_one_iff.1 h1
   rw [zj5, zj5, y1h, List.map_nil, zuw]
   rfl
  repeat (first | refine za8 ?_ | refine za5 rfl ?_ | refine zai ?_ | refine zaa ?_ | refine zb7 ?_ | refine zac ?_ | refine zab ?_ | refine zb8 rfl ?_ | refine za1 rfl ?_ | refine za7 rfl rfl ?_ | refine za9 rfl ?_ | refine zc1 rfl rfl ?_ | refine zci rfl rfl rfl ?_)
  refine zg4 env0_ok [(167, [], zg3), (174, [.fn 168 [] [.vptr (cX (.nd 2 ix args)), .vptr [vsB v]], .vptr [.bool false]], .bool ((args.map (zdc v)).all (· == false)))] (fun x hx => by rcases y0m.1 hx with rfl | hx; exact ziq; obtain rfl := y0e.1 hx; exact zny false v 2 ix args hlen hev) (fun f => Nat.beq f 167) rfl rfl rfl ?_
  refine zap rfl rfl zbq noC ?_
  unfold zg3
  refine za9 rfl (za7 rfl rfl (ze8 rfl rfl rfl rfl (zsc rfl rfl (zfk rfl rfl ?_))))
  refine zjc rfl rfl rfl (zda (by decide) zbq) (fun _ => rfl) ?_
  refine za1 rfl (onu (zak ?_))
  refine zaf ⟨.inr rfl, _, rfl, ?_⟩
  show AV.bool _ = AV.bool _
  exact congrArg AV.bool heq
 ·rw [if_neg (by decide), if_neg (by decide), if_neg (by decide), if_pos rfl, zo7]
  have heq : (args.map (zdc v)).all (· == true) = (args.map (zdc v)).all id := all_true _
  repeat (first | refine za8 ?_ | refine za5 rfl ?_ | refine zai ?_ | refine zaa ?_ | refine zb7 ?_ | refine zac ?_ | refine zab ?_ | refine zb8 rfl ?_ | refine za1 rfl ?_ | refine za7 rfl rfl ?_ | refine za9 rfl ?_ | refine zc1 rfl rfl ?_ | refine zci rfl rfl rfl ?_)
  refine zg4 env0_ok [(167, [], zg3), (174, [.fn 168 [] [.vptr (cX (.nd 3 ix args)), .vptr [vsB v]], .vptr [.bool true]], .bool ((args.map (zdc v)).all (· == true)))] (fun x hx => by rcases y0m.1 hx with rfl | hx; exact ziq; obtain rfl := y0e.1 hx; exact zny true v 3 ix args hlen hev) (fun f => Nat.beq f 167) rfl rfl rfl ?_
  refine zap rfl rfl zbq noC ?_
  unfold zg3
  refine za9 rfl (za7 rfl rfl (ze8 rfl rfl rfl rfl (zsc rfl rfl (zfk rfl rfl ?_))))
  refine zjc rfl rfl rfl (zda (by decide) zbq) (fun _ => rfl) ?_
  refine za1 rfl (onu (zak ?_))
  refine zaf ⟨.inr rfl, _, rfl, ?_⟩
  show AV.bool _ = AV.bool _
  exact congrArg AV.bool heq
 ·rw [if_neg (by decide), if_neg (by decide), if_neg (by decide), if_neg (by decide), zo7]
  have heq : (!(args.map (zdc v)).all (· == false)) = (args.map (zdc v)).any id := zwq _
  repeat (first | refine za8 ?_ | refine za5 rfl ?_ | refine zai ?_ | refine zaa ?_ | refine zb7 ?_ | refine zac ?_ | refine zab ?_ | refine zb8 rfl ?_ | refine za1 rfl ?_ | refine za7 rfl rfl ?_ | refine za9 rfl ?_ | refine zc1 rfl rfl ?_ | refine zci rfl rfl rfl ?_)
  refine zg4 env0_ok [(167, [], zg3), (172, [.fn 168 [] [.vptr (cX (.nd 4 ix args)), .vptr [vsB v]]], .bool (!(args.map (zdc v)).all (· == false)))] (fun x hx => by rcases y0m.1 hx with rfl | hx; exact ziq; obtain rfl := y0e.1 hx; exact some112 v 4 ix args hlen hev) (fun f => Nat.beq f 167) rfl rfl rfl ?_
  refine zap rfl rfl zbq noC ?_
  unfold zg3
  refine za9 rfl (za7 rfl rfl (ze8 rfl rfl rfl rfl (zsc rfl rfl (zfk rfl rfl ?_))))
  refine zjc rfl rfl rfl (zda (by decide) zbq) (fun _ => rfl) ?_
  refine za1 rfl (onu (zak ?_))
  refine zaf ⟨.inr rfl, _, rfl, ?_⟩
  show AV.bool _ = AV.bool _
  exact congrArg AV.bool heq
-- pneumatic/boolexp.Eval
def ic131 : IC := .seq (.region [oM 2 (.box (.t 0)),
  oM 4 (.mov (.c (.bool false))),
  oM 5 (.mov (.c (.int .i64 0)))] none)
 (.seq (.seq (.region [oL 7 3 2,
  oT 8 1,
  oM 9 (.len false (.t 8)),
  oM 10 (.call (.c (.fn 128 [] [])) [(.t 7), (.t 9)]),
  oT 6 10] none)
 (.seq (.region [oT 11 6,
  oM 12 (.bin .neq (.t 11) (.c (.int .i64 0)))] none)
 (.cond (.t 12) (.seq (.region [oT 13 6,
  oM 4 (.mov (.c (.bool false))),
  oT 5 13] none)
 (.ret))
 (.skip))))
 (.seq (.region [oL 14 3 2,
  oT 15 1,
  oM 16 (.call (.c (.fn 158 [] [])) [(.t 14), (.t 15)]),
  oT 4 16,
  oM 5 (.mov (.c (.int .i64 0)))] none)
 (.ret)))
theorem fn131 : env0.fn 131 = some ⟨17, ic131, [.t 4, .t 5]⟩ := by kernel_rfl
def evalV (x : Ex) (v : List Bool) : AV := if ze5 x v.length = 0 then .tup [.bool (zdc v x), .int .i64 0] else .tup [.bool false, .int .i64 (ze5 x v.length)]
theorem nds_of {x : Ex} {n : Int} (h : ze5 x n = 0) : nds n x = 0 := by
 unfold ze5 at h
 split at h
 ·exact absurd h (by decide)
 ·split at h
  ·exact h
  ·exact absurd h (by decide)
theorem eval81 (x : Ex) (hs : Slim x) (v : List Bool) : PF Try.prog 131 [.agg (cX x), vsB v] (evalV x v) := by
 have h59 := zxi x hs v.length
 rw [ztc] at h59
 have h100 : ze5 x v.length = 0 → PF Try.prog 158 [.agg (cX x), vsB v] (.bool (zdc v x)) := fun h => eval100 v _ x (y0c _) (nds_of h)
 have hl : ((v.map fun b => ([.bool b] : List AV)).length : Int) = v.length := by rw [y09]
 obtain ⟨op, ix, args⟩ := x
 refine zb1 env0_ok fn131 [(0, .agg (cX (.nd op ix args))), (1, vsB v)] (by show 2 ≤ 17; decide) rfl fun w0 N0 => ?_
 unfold ic131 evalV
 refine zsr rfl (zc1 rfl rfl (za1 rfl (za1 rfl (onu (za8 (zsr rfl (zam rfl rfl rfl rfl (za1 rfl (zbd rfl rfl ?_)))))))))
 refine zap rfl (by rw [show (((fun n => AV.int .i64 n) (v.map fun b => ([.bool b] : List AV)).length) : AV) = .int .i64 v.length from congrArg _ hl]; rfl) h59 noC ?_
 refine za1 rfl (onr rfl (za1 rfl ?_))
 refine zaq rfl rfl rfl (fun h1 => ?_) fun h1 => ?_
 ·have h1 := bne_iff_ne.1 h1
  rw [if_neg h1]
  refine onu (zb4 rfl (zsr rfl (za1 rfl (za1 rfl (za1 rfl (onu (zak (za4 ?_))))))))
  exact zaf ⟨.inr rfl, _, rfl, rfl⟩
 ·have h1 : ze5 (.nd op ix args) v.length = 0 := by simpa using h1
  rw [if_pos h1]
  refine onu (zb8 rfl (zab (zaa (zsr rfl (zam rfl rfl rfl rfl (za1 rfl ?_))))))
  refine zap rfl rfl (h100 h1) noC ?_
  refine za1 rfl (za1 rfl (onu (zak ?_)))
  exact zaf ⟨.inr rfl, _, rfl, rfl⟩
end Go.Proofs.Ytoiblgbaeglgoaa
namespace Go.Proofs.Ytoiblgbaeglgoaa
open Go Go.Am
def fewB (l : List Ex) : Bool := !(decide (10 < l.length ∧ l.length ≤ 256) || decide (512 < l.length)) && l.all zf5
def zx9 : IC := .seq (.seq (.region [oT 20 3,
  oF 21 0 1,
  oN 22 21,
  oM 23 (.len false (.t 22)),
  oM 24 (.bin .lss (.t 20) (.t 23))] none)
 (.cond (.t 24) (.skip)
 (.exit 0)))
 (.seq (.block 1 (.seq (.region [oF 27 0 1,
  oN 28 27,
  oT 29 3,
  oM 30 (.idxs 3 (.t 28) (.t 29)),
  oL 31 3 30,
  oM 32 (.call (.c (.fn 74 [] [])) [(.t 31)]),
  oM 33 (.un .not (.t 32))] none)
 (.cond (.t 33) (.seq (.region [oM 2 (.mov (.c (.bool false)))] none)
 (.ret))
 (.skip))))
 (.region [oT 25 3,
  oM 26 (.bin .add (.t 25) (.c (.int .i64 1))),
  oT 3 26] none))
-- pneumatic/pneumaticref49.Few
def ic15 : IC := .seq (.region [oM 1 (.box (.t 0)),
  oM 2 (.mov (.c (.bool false)))] none)
 (.seq (.seq (.region [oF 4 0 1,
  oN 5 4,
  oM 6 (.len false (.t 5)),
  oM 7 (.bin .gtr (.t 6) (.c (.int .i64 10))),
  oT 8 7,
  ⟨(some 9), .faddr 0 (.t 1), some (8, true)⟩,
  ⟨(some 10), .load none (.t 9), some (8, true)⟩,
  ⟨(some 11), .len false (.t 10), some (8, true)⟩,
  ⟨(some 12), .bin .leq (.t 11) (.c (.int .i64 256)), some (8, true)⟩,
  oM 13 (.pick (.t 8) (.t 12) (.c (.bool false))),
  oT 14 13,
  ⟨(some 15), .faddr 0 (.t 1), some (14, false)⟩,
  ⟨(some 16), .load none (.t 15), some (14, false)⟩,
  ⟨(some 17), .len false (.t 16), some (14, false)⟩,
  ⟨(some 18), .bin .gtr (.t 17) (.c (.int .i64 512)), some (14, false)⟩,
  oM 19 (.pick (.t 14) (.c (.bool true)) (.t 18))] none)
 (.cond (.t 19) (.seq (.region [oM 2 (.mov (.c (.bool false)))] none)
 (.ret))
 (.skip)))
 (.seq (.seq (.region [oM 3 (.mov (.c (.int .i64 0)))] none)
 (.block 0 (.loop zx9)))
 (.seq (.region [oM 2 (.mov (.c (.bool true)))] none)
 (.ret))))
theorem fn15 : env0.fn 15 = some ⟨34, ic15, [.t 2]⟩ := by kernel_rfl
set_option maxHeartbeats 2000000 in
theorem few11 (l : List Ex) (hlen : l.length < 9223372036854775808) (hsl : ∀ y ∈ l, Slim y) : PF Try.prog 15 [.agg [.vs (cXs l)]] (.bool (fewB l)) := by
 have hcl : (cXs l).length = l.length := zb0 l
 refine zb1 env0_ok fn15 [(0, .agg [.vs (cXs l)])] (by show 1 ≤ 34; decide) rfl fun w0 N0 => ?_
 unfold ic15
 have rest : ¬ ((10 < l.length ∧ l.length ≤ 256) ∨ 512 < l.length) → fewB l = l.all zf5 := fun h => by
  unfold fewB
  rw [decide_eq_false (fun h1 => h (.inl h1)), decide_eq_false (fun h1 => h (.inr h1))]
  rfl
 have none_ : ((10 < l.length ∧ l.length ≤ 256) ∨ 512 < l.length) → fewB l = false := fun h => by
  unfold fewB
  rcases h with h | h
  ·rw [decide_eq_true h]; rfl
  ·rw [decide_eq_true h, Bool.or_true]; rfl
 have loop : ∀ (s1 : AS), Subm w0 N0 none s1 (st 34 [(1, .mptr 0 0 0), (3, .int .i64 ((0 : Nat) : Int))] [(0, 0, .cells [.vs (cXs l)])] 1 1) → fewB l = l.all zf5 →
   Zm Try.prog w0 N0 none (.loop zx9) s1 [.blk 0, .seq (.seq (.region [oM 2 (.mov (.c (.bool true)))] none) .ret)] fun e S' => (e = .normal ∨ e = .ret) ∧ ∃ v0, S'.leave.res [.t 2] = some v0 ∧ (⟨0, .nil, S'.leave.heap, S'.leave.next, S'.leave.clk, []⟩ : AS).view VD v0 = .bool (fewB l) := fun s1 hs1 hf => by
  rw [hf]
  refine zbu (fun mm S => ∃ i, mm = l.length - i ∧ i ≤ l.length ∧ l.all zf5 = (l.drop i).all zf5 ∧
   S = st 34 [(1, .mptr 0 0 0), (3, .int .i64 (i : Nat))] [(0, 0, .cells [.vs (cXs l)])] 1 1) l.length hs1 ⟨0, rfl, y0t _, rfl, rfl⟩ ?_
  rintro mm S ⟨i, rfl, hi, hall, rfl⟩
  unfold zx9
  refine za8 (zsr rfl (za1 rfl (za9 rfl (za7 rfl rfl (zbd rfl rfl ?_)))))
  refine zaq rfl rfl rfl (fun h3 => ?_) fun h3 => ?_
  ·have hlt : i < l.length := by
    have := of_decide_eq_true h3
    rw [zb0] at this
    omega
   have hdr : l.drop i = l[i] :: l.drop (i + 1) := y0g hlt
   rw [hdr] at hall
   have hge := zf9 hlt
   have hmem : l[i] ∈ l := y0y hlt
   generalize l[i] = y at hall hge hmem
   have hsy := hsl y hmem
   obtain ⟨yo, yi, ya⟩ := y
   refine onu (zb4 rfl (zab (zaa (za8 (zac (zsr rfl (za9 rfl (za7 rfl rfl (za1 rfl ?_)))))))))
   refine zbh rfl rfl (y1b i) hge rfl ?_
   refine zam rfl rfl rfl rfl ?_
   have hc := zz3 _ hsy
   rw [y26] at hall
   cases hb : zf5 (.nd yo yi ya) with
   | true =>
    rw [hb] at hc hall
    rw [Bool.true_and] at hall
    refine zap rfl rfl hc noC ?_
    refine zfr rfl rfl (onu (zb8 rfl (zab (zb7 (zaa (za5 rfl (za1 rfl (zb6 (op := .add) rfl rfl rfl (za1 rfl (zai ?_))))))))))
    rw [zas i (by omega)]
    exact zav (show l.length - (i + 1) < l.length - i by omega) (zan (.cons rfl (.cons rfl .nil))) ⟨i + 1, rfl, hlt, hall, rfl⟩
   | false =>
    rw [hb] at hc hall
    rw [Bool.false_and] at hall
    refine zap rfl rfl hc noC ?_
    refine zfr rfl rfl (onu (zb4 rfl (zsr rfl (za1 rfl (onu (zak (zag (za4 ?_))))))))
    refine zbb ?_
    refine zag (za4 ?_)
    refine zaf ⟨.inr rfl, _, rfl, ?_⟩
    rw [hall]
    rfl
  ·have hi2 : i = l.length := by
    have := of_decide_eq_false h3
    rw [zb0] at this
    omega
   subst hi2
   rw [y0s] at hall
   refine onu (zb8 rfl (zbm (zao ?_)))
   refine zcn ?_
   refine zbl (zaa (zsr rfl (za1 rfl (onu (zak ?_)))))
   refine zaf ⟨.inr rfl, _, rfl, ?_⟩
   rw [hall]
   rfl
 refine zsr rfl (zc1 rfl rfl (za1 rfl (onu (za8 (zsr rfl (za9 rfl (za7 rfl rfl (zbd rfl rfl ?_))))))))
 refine zaq rfl rfl rfl (fun h1 => ?_) fun h1 => ?_
 ·have h1 := of_decide_eq_true h1
  refine za1 rfl (zbc rfl (za9 rfl (zbc rfl (za7 rfl rfl (zbc rfl (zbd rfl rfl (zbc rfl ?_)))))))
  refine zaq rfl rfl rfl (fun h2 => ?_) fun h2 => ?_
  ·have h2 := of_decide_eq_true h2
   refine zat rfl rfl (za1 rfl (zbz rfl rfl (zbz rfl rfl (zbz rfl rfl (zbz rfl rfl (zat rfl rfl (onu (zb4 rfl (zsr rfl (za1 rfl (zai ?_)))))))))))
   refine zaa (zak (za4 ?_))
   refine zaf ⟨.inr rfl, _, rfl, ?_⟩
   rw [none_ (.inl ⟨by omega, by omega⟩)]
   rfl
  ·have h2 := of_decide_eq_false h2
   refine zat rfl rfl (za1 rfl (zbc rfl (za9 rfl (zbc rfl (za7 rfl rfl (zbc rfl (zbd rfl rfl (zbc rfl ?_))))))))
   refine zaq rfl rfl rfl (fun h3 => ?_) fun h3 => ?_
   ·have h3 := of_decide_eq_true h3
    refine zal rfl rfl (onu (zb4 rfl (zsr rfl (za1 rfl (onu (zak (za4 ?_)))))))
    refine zaf ⟨.inr rfl, _, rfl, ?_⟩
    rw [none_ (.inr (by omega))]
    rfl
   ·have h3 := of_decide_eq_false h3
    refine zal rfl rfl (onu (zb8 rfl (zab (zaa (za8 (zsr rfl (za1 rfl (onu (zac ?_)))))))))
    exact loop _ (zan (.cons rfl (.cons rfl .nil))) (rest (by omega))
 ·have h1 := of_decide_eq_false h1
  repeat (first | refine zbc rfl ?_ | refine zbz rfl rfl ?_ | refine za1 rfl ?_ | refine za7 rfl rfl ?_ | refine za9 rfl ?_ | refine zal rfl rfl ?_ | refine zbd rfl rfl ?_)
  refine zaq rfl rfl rfl (fun h3 => ?_) fun h3 => ?_
  ·have h3 := of_decide_eq_true h3
   exact absurd h3 (by omega)
  ·refine zal rfl rfl (onu (zb8 rfl (zab (zaa (za8 (zsr rfl (za1 rfl (onu (zac ?_)))))))))
   exact loop _ (zan (.cons rfl (.cons rfl .nil))) (rest (by omega))
end Go.Proofs.Ytoiblgbaeglgoaa
namespace Go.Proofs.Ytoiblgbaeglgoaa
open Go Go.Am
def chkL (m : Int) : List Ex → Int
 | [] => 0
 | y :: ys => if ze5 y m = 0 then chkL m ys else ze5 y m
def zcc (l : List Ex) (n : Int) : Int := if n < 1 ∨ n > 6 then 2 else if l.length > 256 then 5 else chkL (2 * n) l
def body80 : IC := .seq (.region [oM 24 (.bin .lss (.t 23) (.t 22))] none)
 (.seq (.cond (.t 24) (.skip)
 (.exit 1))
 (.seq (.block 2 (.seq (.region [oM 25 (.idxs 3 (.t 21) (.t 23)),
  oL 26 3 25,
  oM 6 (.alloc [.int .i64 0, .int .i64 0, .nils]),
  ⟨none, .store 3 (.t 6) (.t 26), none⟩] none)
 (.seq (.region [oL 27 3 6,
  oT 28 1,
  oM 29 (.bin .mul (.c (.int .i64 2)) (.t 28)),
  oM 30 (.call (.c (.fn 128 [] [])) [(.t 27), (.t 29)]),
  oT 7 30] none)
 (.seq (.region [oT 31 7,
  oM 32 (.bin .neq (.t 31) (.c (.int .i64 0)))] none)
 (.cond (.t 32) (.seq (.region [oT 33 7,
  oT 4 33] none)
 (.ret))
 (.skip))))))
 (.region [oM 34 (.bin .add (.t 23) (.c (.int .i64 1))),
  oT 23 34] none)))
-- pneumatic/guard.Check
def ic80 : IC := .seq (.region [oM 2 (.box (.t 0)),
  oM 4 (.mov (.c (.int .i64 0)))] none)
 (.seq (.block 0 (.seq (.region [oT 9 1,
  oM 10 (.bin .lss (.t 9) (.c (.int .i64 1))),
  oT 11 10,
  ⟨(some 12), .mov (.t 1), some (11, false)⟩,
  ⟨(some 13), .bin .gtr (.t 12) (.c (.int .i64 6)), some (11, false)⟩,
  oM 14 (.pick (.t 11) (.c (.bool true)) (.t 13)),
  oT 8 14] none)
 (.cond (.t 8) (.seq (.region [oM 4 (.mov (.c (.int .i64 2)))] none)
 (.ret))
 (.seq (.region [oF 16 0 2,
  oN 17 16,
  oM 18 (.len false (.t 17)),
  oM 19 (.bin .gtr (.t 18) (.c (.int .i64 256))),
  oT 15 19] none)
 (.cond (.t 15) (.seq (.region [oM 4 (.mov (.c (.int .i64 5)))] none)
 (.ret))
 (.skip))))))
 (.seq (.seq (.region [oF 20 0 2,
  oN 21 20,
  oM 22 (.len false (.t 21)),
  oM 23 (.mov (.c (.int .i64 0)))] none)
 (.block 1 (.loop body80)))
 (.seq (.region [oM 4 (.mov (.c (.int .i64 0)))] none)
 (.ret))))
theorem fn80 : env0.fn 80 = some ⟨35, ic80, [.t 4]⟩ := by kernel_rfl
set_option maxHeartbeats 2000000 in
theorem zo5 (l : List Ex) (hsl : ∀ y ∈ l, Slim y) (n : Int) : PF Try.prog 80 [.agg [.vs (cXs l)], .int .i64 n] (.int .i64 (zcc l n)) := by
 have hcl : (cXs l).length = l.length := zb0 l
 refine zb1 env0_ok fn80 [(0, .agg [.vs (cXs l)]), (1, .int .i64 n)] (by show 2 ≤ 35; decide) rfl fun w0 N0 => ?_
 unfold ic80 zcc
 refine zsr rfl (zc1 rfl rfl (za1 rfl (onu (za8 (zac (zsr rfl (za1 rfl ?_)))))))
 refine zaq rfl rfl rfl (fun h1 => ?_) fun h1 => ?_
 ·have h1 := of_decide_eq_true h1
  rw [if_pos (.inl h1)]
  refine za1 rfl (zbz rfl rfl (zbz rfl rfl (zat rfl rfl (za1 rfl (onu (zb4 rfl (zsr rfl (za1 rfl (onu (zak ?_))))))))))
  refine zag (za4 ?_)
  exact zaf ⟨.inr rfl, _, rfl, rfl⟩
 have h1 := of_decide_eq_false h1
 refine za1 rfl (zbc rfl (za1 rfl (zbc rfl ?_)))
 refine zaq rfl rfl rfl (fun h2 => ?_) fun h2 => ?_
 ·have h2 := of_decide_eq_true h2
  rw [if_pos (.inr h2)]
  refine zal rfl rfl (za1 rfl (onu (zb4 rfl (zsr rfl (za1 rfl (onu (zak (zag (za4 ?_)))))))))
  exact zaf ⟨.inr rfl, _, rfl, rfl⟩
 have h2 := of_decide_eq_false h2
 rw [if_neg (fun h => h.elim h1 h2)]
 refine zal rfl rfl (za1 rfl (onu (zb8 rfl (zsr rfl (za9 rfl (za7 rfl rfl (zbd rfl rfl ?_)))))))
 refine zaq rfl rfl rfl (fun h2 => ?_) fun h2 => ?_
 ·have h2 := of_decide_eq_true h2
  rw [if_pos (by omega)]
  refine za1 rfl (onu (zb4 rfl (zsr rfl (za1 rfl (onu (zak (zag (za4 ?_))))))))
  exact zaf ⟨.inr rfl, _, rfl, rfl⟩
 have h2 := of_decide_eq_false h2
 rw [if_neg (by omega)]
 have hlen : l.length ≤ 256 := by omega
 refine za1 rfl (onu (zb8 rfl (zab (zb7 (zaa (za8 (zsr rfl (za9 rfl (za7 rfl rfl (zbd rfl rfl (za1 rfl ?_)))))))))))
 refine onu (zac ?_)
 refine zbu (fun mm S => ∃ i, mm = l.length - i ∧ i ≤ l.length ∧ chkL (2 * n) l = chkL (2 * n) (l.drop i) ∧
   S = st 35 [(1, .int .i64 n), (21, .vs (cXs l)), (22, .int .i64 (cXs l).length), (23, .int .i64 (i : Nat))] [] 0 1) l.length
  (ze3 (.cons rfl (.same rfl) (.cons rfl (.same rfl) (.cons rfl (.same rfl) (.cons rfl (.same rfl) .nil))))) ⟨0, rfl, y0t _, rfl, rfl⟩ ?_
 rintro mm S ⟨i, rfl, hi, hall, rfl⟩
 unfold body80
 refine zsr rfl ?_
 refine zaq rfl rfl rfl (fun h3 => ?_) fun h3 => ?_
 ·have hlt : i < l.length := by
   have := of_decide_eq_true h3
   rw [zb0] at this
   omega
  have hdr : l.drop i = l[i] :: l.drop (i + 1) := y0g hlt
  rw [hdr] at hall
  have hge := zf9 hlt
  have hmem : l[i] ∈ l := y0y hlt
  generalize l[i] = y at hall hge hmem
  have hsy := hsl y hmem
  obtain ⟨yo, yi, ya⟩ := y
  rw [chkL] at hall
  refine onu (za8 (zb4 rfl (zab (zaa (za8 (zac (zsr rfl ?_)))))))
  refine zbh rfl rfl (y1b i) hge rfl ?_
  refine zam rfl rfl rfl rfl (zau (zad rfl rfl rfl rfl rfl rfl rfl (onr rfl (zam rfl rfl rfl rfl (za1 rfl ?_)))))
  refine zb6 (op := .mul) rfl rfl rfl ?_
  rw [show IntKind.wrap .i64 (2 * n) = 2 * n from wrap_small _ (by omega) (by omega)]
  have hc := zxi _ hsy (2 * n)
  rw [ztc] at hc
  refine zap rfl rfl hc noC ?_
  refine za1 rfl (onr rfl (za1 rfl ?_))
  refine zaq rfl rfl rfl (fun h4 => ?_) fun h4 => ?_
  ·have h4 := bne_iff_ne.1 h4
   rw [if_neg h4] at hall
   refine onu (zb4 rfl (zsr rfl (za1 rfl (za1 rfl (onu (zak (zag (za4 ?_))))))))
   refine zbb ?_
   refine zag (za4 ?_)
   refine zaf ⟨.inr rfl, _, rfl, ?_⟩
   rw [hall]
   rfl
  ·have h4 : ze5 (.nd yo yi ya) (2 * n) = 0 := by simpa using h4
   rw [if_pos h4] at hall
   refine onu (zb8 rfl (zab (zb7 (zaa (za5 rfl (zb6 (op := .add) rfl rfl rfl (za1 rfl (zai ?_))))))))
   exact zav (show l.length - (i + 1) < l.length - i by omega) (ze3 (.cons rfl (.same rfl) (.cons rfl (.same rfl) (.cons rfl (.same rfl) (.cons rfl (zjv (congrArg (AV.int .i64) (zas i (by omega))) rfl) .nil))))) ⟨i + 1, rfl, hlt, hall, rfl⟩
 ·have hi2 : i = l.length := by
   have := of_decide_eq_false h3
   rw [zb0] at this
   omega
  subst hi2
  rw [y0s] at hall
  refine onu (za8 (zb8 rfl (zbm (zao ?_))))
  refine zcn ?_
  refine zbl (zaa (zsr rfl (za1 rfl (onu (zak ?_)))))
  refine zaf ⟨.inr rfl, _, rfl, ?_⟩
  rw [hall]
  rfl
def body67 : IC := .seq (.seq (.region [oT 17 5,
  oF 18 0 2,
  oN 19 18,
  oM 20 (.len false (.t 19)),
  oM 21 (.bin .lss (.t 17) (.t 20))] none)
 (.cond (.t 21) (.skip)
 (.exit 0)))
 (.seq (.block 1 (.seq (.region [oF 24 0 2,
  oN 25 24,
  oT 26 5,
  oM 27 (.idxs 3 (.t 25) (.t 26)),
  oL 28 3 27,
  oT 29 1,
  oM 30 (.bin .mul (.c (.int .i64 2)) (.t 29)),
  oM 31 (.call (.c (.fn 116 [] [])) [(.t 28), (.t 30)]),
  oT 6 31] none)
 (.seq (.region [oT 32 6,
  oM 33 (.bin .neq (.t 32) (.c (.int .i64 0)))] none)
 (.cond (.t 33) (.seq (.region [oT 34 6,
  oT 4 34] none)
 (.ret))
 (.skip)))))
 (.region [oT 22 5,
  oM 23 (.bin .add (.t 22) (.c (.int .i64 1))),
  oT 5 23] none))
-- pneumatic/pneumaticref49.Check
def ic67 : IC := .seq (.region [oM 2 (.box (.t 0)),
  oM 4 (.mov (.c (.int .i64 0)))] none)
 (.seq (.seq (.region [oT 7 1,
  oM 8 (.bin .lss (.t 7) (.c (.int .i64 1))),
  oT 9 8,
  ⟨(some 10), .mov (.t 1), some (9, false)⟩,
  ⟨(some 11), .bin .gtr (.t 10) (.c (.int .i64 6)), some (9, false)⟩,
  oM 12 (.pick (.t 9) (.c (.bool true)) (.t 11))] none)
 (.cond (.t 12) (.seq (.region [oM 4 (.mov (.c (.int .i64 2)))] none)
 (.ret))
 (.skip)))
 (.seq (.seq (.region [oF 13 0 2,
  oN 14 13,
  oM 15 (.len false (.t 14)),
  oM 16 (.bin .gtr (.t 15) (.c (.int .i64 256)))] none)
 (.cond (.t 16) (.seq (.region [oM 4 (.mov (.c (.int .i64 5)))] none)
 (.ret))
 (.skip)))
 (.seq (.seq (.region [oM 5 (.mov (.c (.int .i64 0)))] none)
 (.block 0 (.loop body67)))
 (.seq (.region [oM 4 (.mov (.c (.int .i64 0)))] none)
 (.ret)))))
theorem fn67 : env0.fn 67 = some ⟨35, ic67, [.t 4]⟩ := by kernel_rfl
set_option maxHeartbeats 2000000 in
theorem gcheck29 (l : List Ex) (hsl : ∀ y ∈ l, Slim y) (n : Int) : PF Try.prog 67 [.agg [.vs (cXs l)], .int .i64 n] (.int .i64 (zcc l n)) := by
 have hcl : (cXs l).length = l.length := zb0 l
 refine zb1 env0_ok fn67 [(0, .agg [.vs (cXs l)]), (1, .int .i64 n)] (by show 2 ≤ 35; decide) rfl fun w0 N0 => ?_
 unfold ic67 zcc
 refine zsr rfl (zc1 rfl rfl (za1 rfl (onu (za8 (zsr rfl (za1 rfl ?_))))))
 refine zaq rfl rfl rfl (fun h1 => ?_) fun h1 => ?_
 ·have h1 := of_decide_eq_true h1
  rw [if_pos (.inl h1)]
  refine za1 rfl (zbz rfl rfl (zbz rfl rfl (zat rfl rfl (onu (zb4 rfl (zsr rfl (za1 rfl (onu (zak (za4 ?_))))))))))
  exact zaf ⟨.inr rfl, _, rfl, rfl⟩
 have h1 := of_decide_eq_false h1
 refine za1 rfl (zbc rfl (za1 rfl (zbc rfl ?_)))
 refine zaq rfl rfl rfl (fun h2 => ?_) fun h2 => ?_
 ·have h2 := of_decide_eq_true h2
  rw [if_pos (.inr h2)]
  refine zal rfl rfl (onu (zb4 rfl (zsr rfl (za1 rfl (onu (zak (za4 ?_)))))))
  exact zaf ⟨.inr rfl, _, rfl, rfl⟩
 have h2 := of_decide_eq_false h2
 rw [if_neg (fun h => h.elim h1 h2)]
 refine zal rfl rfl (onu (zb8 rfl (zab (zaa (za8 (zsr rfl (za9 rfl (za7 rfl rfl (zbd rfl rfl ?_)))))))))
 refine zaq rfl rfl rfl (fun h2 => ?_) fun h2 => ?_
 ·have h2 := of_decide_eq_true h2
  rw [if_pos (by omega)]
  refine onu (zb4 rfl (zsr rfl (za1 rfl (onu (zak (za4 ?_))))))
  exact zaf ⟨.inr rfl, _, rfl, rfl⟩
 have h2 := of_decide_eq_false h2
 rw [if_neg (by omega)]
 have hlen : l.length ≤ 256 := by omega
 refine onu (zb8 rfl (zab (zaa (za8 (zsr rfl (za1 rfl (onu (zac ?_))))))))
 refine zbu (fun mm S => ∃ i, mm = l.length - i ∧ i ≤ l.length ∧ chkL (2 * n) l = chkL (2 * n) (l.drop i) ∧
   S = st 35 [(1, .int .i64 n), (2, .mptr 0 0 0), (5, .int .i64 (i : Nat))] [(0, 0, .cells [.vs (cXs l)])] 1 1) l.length
  (zan (.cons rfl (.cons rfl (.cons rfl .nil)))) ⟨0, rfl, y0t _, rfl, rfl⟩ ?_
 rintro mm S ⟨i, rfl, hi, hall, rfl⟩
 unfold body67
 refine za8 (zsr rfl (za1 rfl (za9 rfl (za7 rfl rfl (zbd rfl rfl ?_)))))
 refine zaq rfl rfl rfl (fun h3 => ?_) fun h3 => ?_
 ·have hlt : i < l.length := by
   have := of_decide_eq_true h3
   rw [zb0] at this
   omega
  have hdr : l.drop i = l[i] :: l.drop (i + 1) := y0g hlt
  rw [hdr] at hall
  have hge := zf9 hlt
  have hmem : l[i] ∈ l := y0y hlt
  generalize l[i] = y at hall hge hmem
  have hsy := hsl y hmem
  obtain ⟨yo, yi, ya⟩ := y
  rw [chkL] at hall
  refine onu (zb4 rfl (zab (zaa (za8 (zac (zsr rfl (za9 rfl (za7 rfl rfl (za1 rfl ?_)))))))))
  refine zbh rfl rfl (y1b i) hge rfl ?_
  refine zam rfl rfl rfl rfl (za1 rfl ?_)
  refine zb6 (op := .mul) rfl rfl rfl ?_
  rw [show IntKind.wrap .i64 (2 * n) = 2 * n from wrap_small _ (by omega) (by omega)]
  refine zap rfl rfl (check60 _ hsy (2 * n)) noC ?_
  refine za1 rfl (onr rfl (za1 rfl ?_))
  refine zaq rfl rfl rfl (fun h4 => ?_) fun h4 => ?_
  ·have h4 := bne_iff_ne.1 h4
   rw [if_neg h4] at hall
   refine onu (zb4 rfl (zsr rfl (za1 rfl (za1 rfl (onu (zak (zag (za4 ?_))))))))
   refine zbb ?_
   refine zag (za4 ?_)
   refine zaf ⟨.inr rfl, _, rfl, ?_⟩
   rw [hall]
   rfl
  ·have h4 : ze5 (.nd yo yi ya) (2 * n) = 0 := by simpa using h4
   rw [if_pos h4] at hall
   refine onu (zb8 rfl (zab (zb7 (zaa (za5 rfl (za1 rfl (zb6 (op := .add) rfl rfl rfl (za1 rfl (zai ?_)))))))))
   rw [zas i (by omega)]
   exact zav (show l.length - (i + 1) < l.length - i by omega) (zan (.cons rfl (.cons rfl (.cons rfl .nil)))) ⟨i + 1, rfl, hlt, hall, rfl⟩
 ·have hi2 : i = l.length := by
   have := of_decide_eq_false h3
   rw [zb0] at this
   omega
  subst hi2
  rw [y0s] at hall
  refine onu (zb8 rfl (zbm (zao ?_)))
  refine zcn ?_
  refine zbl (zaa (zsr rfl (za1 rfl (onu (zak ?_)))))
  refine zaf ⟨.inr rfl, _, rfl, ?_⟩
  rw [hall]
  rfl
end Go.Proofs.Ytoiblgbaeglgoaa
namespace Go.Proofs.Ytoiblgbaeglgoaa
open Go Go.Am
def vsI (l : List Int) : AV := .vs (l.map fun z => [.int .i64 z])
def sw : List Int → List Bool
 | [] => []
 | z :: zs => (z == 0) :: (z == 2) :: sw zs
theorem yaf (a b : List Int) : sw (a ++ b) = sw a ++ sw b := by
 induction a with
 | nil => rfl
 | cons z zs ih => simp [sw, ih]
theorem zqy (l : List Int) : (sw l).length = 2 * l.length := by
 induction l with
 | nil => rfl
 | cons z zs ih => simp only [sw, y0n, ih]; omega
theorem zp7 (l : List Int) (i : Nat) (h : i < l.length) : (l.map fun z => ([.int .i64 z] : List AV))[((i : Nat) : Int).toNat]? = some [.int .i64 l[i]] := by
 rw [y0w, y0i, y07 h]
 rfl
theorem zbx : ∀ l : List Bool, hasM.hasML (l.map AV.bool) = false
 | [] => rfl
 | b :: l => by
  have := zbx l
  simpa [hasM.hasML, hasM] using this
theorem zh9 {S : AS} {d : Nat} (l : List Bool) (hl : Am.look 0 S.heap = some (0, .cells (l.map AV.bool))) : S.view (d + 2) (.ms 0 0 1 0 l.length none) = vsB l := by
 have hf : l.map AV.bool = (l.map fun b => ([.bool b] : List AV)).flatten := by
  clear hl
  induction l with
  | nil => rfl
  | cons b l ih => simp [ih]
 have := yao (d := d + 1) (S := S) (id := 0) (st := 0) (sz := 1) (xs := l.map fun b => ([.bool b] : List AV)) hl hf (fun x hx => by obtain ⟨b, _, rfl⟩ := y0o.1 hx; rfl)
 rw [y09] at this
 rw [this]
 unfold vsB
 congr 1
 rw [y1y]
 exact y1w fun _ _ => rfl
end Go.Proofs.Ytoiblgbaeglgoaa
namespace Go.Proofs.Ytoiblgbaeglgoaa
open Go Go.Am
def idxs (f : Ex → Bool) : Nat → List Ex → List Int
 | _, [] => []
 | i, y :: ys => if f y = true then (i : Int) :: idxs f (i + 1) ys else idxs f (i + 1) ys
theorem zah : ∀ l : List Int, hasM.hasML (l.map (AV.int .i64)) = false
 | [] => rfl
 | b :: l => by
  have := zah l
  simpa [hasM.hasML, hasM] using this
theorem yan {S : AS} {d id sp : Nat} (l : List Int) (hl : Am.look id S.heap = some (sp, .cells (l.map (AV.int .i64)))) : S.view (d + 2) (.ms id sp 1 0 l.length none) = vsI l := by
 have hf : l.map (AV.int .i64) = (l.map fun b => ([.int .i64 b] : List AV)).flatten := by
  clear hl
  induction l with
  | nil => rfl
  | cons b l ih => simp [ih]
 have := yao (d := d + 1) (S := S) (id := id) (st := sp) (sz := 1) (xs := l.map fun b => ([.int .i64 b] : List AV)) hl hf (fun x hx => by obtain ⟨b, _, rfl⟩ := y0o.1 hx; rfl)
 rw [y09] at this
 rw [this]
 unfold vsI
 congr 1
 rw [y1y]
 exact y1w fun _ _ => rfl
end Go.Proofs.Ytoiblgbaeglgoaa
namespace Go.Proofs.Ytoiblgbaeglgoaa
open Go Go.Am
theorem zje {a b a' b' : AV} (h : a = a') (k : b = b') : [a, b] = [a', b'] := by rw [h, k]
def zrf : IC := .seq (.region [oM 16 (.bin .lss (.t 15) (.t 14))] none)
 (.seq (.cond (.t 16) (.skip)
 (.exit 0))
 (.seq (.block 1 (.seq (.region [oM 17 (.idxs 1 (.t 13) (.t 15)),
  oN 18 17,
  oT 7 18] none)
 (.region [oT 19 5,
  oT 20 7,
  oM 21 (.bin .eql (.t 20) (.c (.int .i64 0))),
  oT 22 7,
  oM 23 (.bin .eql (.t 22) (.c (.int .i64 2))),
  oM 24 (.bslice 1 2 [.bool false, .bool false] [(0, 1, (.t 21)), (1, 1, (.t 23))]),
  oM 25 (.append 1 1 [.bool false] (.t 19) (.t 24)),
  oT 5 25] none)))
 (.region [oM 26 (.bin .add (.t 15) (.c (.int .i64 1))),
  oT 15 26] none)))
def zrg : IC := .seq (.region [oM 30 (.bin .lss (.t 29) (.t 28))] none)
 (.seq (.cond (.t 30) (.skip)
 (.exit 2))
 (.seq (.block 3 (.seq (.region [oT 31 29,
  oM 32 (.idxs 3 (.t 27) (.t 29)),
  oL 33 3 32,
  oM 10 (.alloc [.int .i64 0, .int .i64 0, .nils]),
  oT 9 31,
  ⟨none, .store 3 (.t 10) (.t 33), none⟩] none)
 (.seq (.region [oL 35 3 10,
  oT 36 5,
  oM 37 (.call (.c (.fn 131 [] [])) [(.t 35), (.t 36)]),
  oT 34 37,
  oM 38 (.extract (.t 34) 0),
  oM 39 (.extract (.t 34) 1),
  oT 11 38,
  oT 12 39] none)
 (.seq (.region [oT 40 12,
  oM 41 (.bin .eql (.t 40) (.c (.int .i64 0))),
  oT 42 41,
  ⟨(some 43), .mov (.t 11), some (42, true)⟩,
  oM 44 (.pick (.t 42) (.t 43) (.c (.bool false)))] none)
 (.cond (.t 44) (.region [oT 45 8,
  oT 46 9,
  oM 47 (.bslice 1 1 [.int .i64 0] [(0, 1, (.t 46))]),
  oM 48 (.append 1 8 [.int .i64 0] (.t 45) (.t 47)),
  oT 8 48] none)
 (.skip))))))
 (.region [oM 49 (.bin .add (.t 29) (.c (.int .i64 1))),
  oT 29 49] none)))
-- pneumatic/guard.which
def ic83 : IC := .seq (.region [oM 4 (.mov (.c (.nils)))] none)
 (.seq (.region [oM 5 (.mov (.c (.nils)))] none)
 (.seq (.seq (.region [oT 13 1,
  oM 14 (.len false (.t 13)),
  oM 15 (.mov (.c (.int .i64 0)))] none)
 (.block 0 (.loop zrf)))
 (.seq (.region [oM 8 (.mov (.c (.nils)))] none)
 (.seq (.seq (.region [oT 27 0,
  oM 28 (.len false (.t 27)),
  oM 29 (.mov (.c (.int .i64 0)))] none)
 (.block 2 (.loop zrg)))
 (.seq (.region [oT 50 8,
  oT 4 50] none)
 (.ret))))))
theorem fn83 : env0.fn 83 = some ⟨51, ic83, [.t 4]⟩ := by kernel_rfl
set_option maxHeartbeats 4000000 in
theorem yas (l : List Ex) (hl : l.length ≤ 600) (e : List Int) (he0 : 0 < e.length) (he : e.length ≤ 600) (hck : ∀ y ∈ l, ze5 y (sw e).length = 0) (hsl : ∀ y ∈ l, Slim y) : PF Try.prog 83 [.vs (cXs l), vsI e] (vsI (idxs (zdc (sw e)) 0 l)) := by
 have hcl : (cXs l).length = l.length := zb0 l
 have hce : (e.map fun z => ([.int .i64 z] : List AV)).length = e.length := y09 ..
 refine zb1 env0_ok fn83 [(0, .vs (cXs l)), (1, vsI e)] (by show 2 ≤ 51; decide) rfl fun w0 N0 => ?_
 unfold ic83
 repeat (first | refine za8 ?_ | refine za5 rfl ?_ | refine zai ?_ | refine zaa ?_ | refine zac ?_ | refine za1 rfl ?_ | refine zbd rfl rfl ?_)
 refine zbu (fun mm S => ∃ i, mm = e.length - i ∧ i ≤ e.length ∧
   (
    (i = 0 ∧ S = st 51 [(0, .vs (cXs l)), (13, vsI e), (14, .int .i64 (e.map fun z => ([.int .i64 z] : List AV)).length), (5, .nils), (15, .int .i64 (i : Nat))] [] 0 1) ∨
    ∃ k cs, k = cs.length ∧ cs = (sw (e.take i)).map AV.bool ∧ S = st 51 [(0, .vs (cXs l)), (13, vsI e), (14, .int .i64 (e.map fun z => ([.int .i64 z] : List AV)).length), (5, .ms 0 0 1 0 k none), (15, .int .i64 (i : Nat))] [(0, 0, .cells cs)] 1 1)) e.length
  (ze3 (.cons rfl (.same rfl) (.cons rfl (.same rfl) (.cons rfl (.same rfl) (.cons rfl (.same rfl) (.cons rfl (.same rfl) .nil)))))) ⟨0, rfl, y0t _, .inl ⟨rfl, rfl⟩⟩ ?_
 rintro mm S ⟨i, rfl, hi, ⟨rfl, rfl⟩ | ⟨k, cs, hk, hcs, rfl⟩⟩
 ·unfold zrf
  refine zsr rfl ?_
  refine zaq rfl rfl rfl (fun h3 => ?_) fun h3 => ?_
  ·have hge := zp7 e 0 he0
   have ht : e.take (0 + 1) = [e[0]] := by
    cases e with
    | nil => simp at he0
    | cons a t => rfl
   generalize e[0] = z at hge ht
   refine onu (za8 (zb4 rfl (zab (zaa (za8 (zac (zsr rfl ?_)))))))
   refine zbh rfl rfl (y1b 0) hge rfl ?_
   refine za7 rfl rfl (za1 rfl (onR rfl (za1 rfl (za1 rfl ?_))))
   refine zb6 (op := .eql) rfl rfl rfl ?_
   refine za1 rfl ?_
   refine zb6 (op := .eql) rfl rfl rfl ?_
   refine zch rfl rfl (zoo rfl rfl rfl rfl (za1 rfl (zai (zb7 (zaa (za5 rfl (zb6 (op := .add) rfl rfl rfl (za1 rfl (zai ?_)))))))))
   exact zav (show e.length - (0 + 1) < e.length - 0 by omega) (zgt [(1, _, [.bool (z == 0), .bool (z == 2)])] rfl rfl (by simp) (.cons rfl rfl (ze2 rfl) .nil) (.cons rfl (.same rfl) (.cons rfl (.same rfl) (.cons rfl (.same rfl) (.cons rfl (.ms rfl) (.cons rfl (.same rfl) .nil)))))) ⟨0 + 1, rfl, he0, .inr ⟨2, _, rfl, by rw [ht]; rfl, rfl⟩⟩
  ·have := of_decide_eq_false h3
   rw [hce] at this
   exact absurd he0 (by omega)
 ·unfold zrf
  refine zsr rfl ?_
  refine zaq rfl rfl rfl (fun h3 => ?_) fun h3 => ?_
  ·have hlt : i < e.length := by
    have := of_decide_eq_true h3
    rw [hce] at this
    omega
   have hge := zp7 e i hlt
   have ht : e.take (i + 1) = e.take i ++ [e[i]] := by rw [y2e, y07 hlt]; rfl
   generalize e[i] = z at hge ht
   have hlk : cs.length ≤ 1200 := by rw [hcs, y09, zqy, y1u]; omega
   have hM : hasM.hasML cs = false := by rw [hcs]; exact zbx _
   refine onu (za8 (zb4 rfl (zab (zaa (za8 (zac (zsr rfl ?_)))))))
   refine zbh rfl rfl (y1b i) hge rfl ?_
   refine za7 rfl rfl (za1 rfl (onR rfl (za1 rfl (za1 rfl ?_))))
   refine zb6 (op := .eql) rfl rfl rfl ?_
   refine za1 rfl ?_
   refine zb6 (op := .eql) rfl rfl rfl ?_
   refine zch rfl rfl ?_
   refine zbf [[.bool (z == 0)], [.bool (z == 2)]] rfl rfl rfl (fun h => Nat.noConfusion h) rfl (by decide) rfl (by rw [hk]; omega) (by rw [hk]; show cs.length + 2 ≤ _; omega) ?_
   refine za1 rfl (zai (zb7 (zaa (za5 rfl (zb6 (op := .add) rfl rfl rfl (za1 rfl (zai ?_)))))))
   exact zav (show e.length - (i + 1) < e.length - i by omega) (zgt [(0, _, cs ++ [.bool (z == 0), .bool (z == 2)])] rfl rfl (by simp) (.cons rfl rfl (ze2 (zgk hM rfl)) .nil) (.cons rfl (.same rfl) (.cons rfl (.same rfl) (.cons rfl (.same rfl) (.cons rfl (.ms rfl) (.cons rfl (zjv (congrArg (AV.int .i64) (zas i (by omega))) rfl) .nil)))))) ⟨i + 1, rfl, hlt, .inr ⟨k + 2, _, by rw [y0j, hk]; rfl, by rw [ht, yaf, y22, hcs]; rfl, rfl⟩⟩
  ·have hi2 : i = e.length := by
    have := of_decide_eq_false h3
    rw [hce] at this
    omega
   refine onu (za8 (zb8 rfl (zbm (zao ?_))))
   refine zcn ?_
   repeat (first | refine za8 ?_ | refine za5 rfl ?_ | refine zai ?_ | refine zaa ?_ | refine zac ?_ | refine zbl ?_ | refine za1 rfl ?_ | refine zbd rfl rfl ?_)
   have hfin : cs = (sw e).map AV.bool := by rw [hcs, hi2, y2a]
   clear hcs
   subst hfin
   rw [y09] at hk
   subst hk
   refine zbu (fun mm S => ∃ i out, mm = l.length - i ∧ i ≤ l.length ∧ out ++ idxs (zdc (sw e)) i (l.drop i) = idxs (zdc (sw e)) 0 l ∧ out.length ≤ i ∧
    (
     (out = [] ∧ S = st 51 [(27, .vs (cXs l)), (28, .int .i64 (cXs l).length), (5, .ms 0 0 1 0 (sw e).length none), (8, .nils), (29, .int .i64 (i : Nat))] [(0, 0, .cells ((sw e).map AV.bool))] 1 1) ∨
     ∃ k cs, k = cs.length ∧ cs = out.map (AV.int .i64) ∧ S = st 51 [(27, .vs (cXs l)), (28, .int .i64 (cXs l).length), (5, .ms 0 0 1 0 (sw e).length none), (8, .ms 1 0 1 0 k none), (29, .int .i64 (i : Nat))] [(0, 0, .cells ((sw e).map AV.bool)), (1, 0, .cells cs)] 2 1)) l.length
    (zgt [(0, _, (sw e).map AV.bool)] rfl rfl (by simp) (.cons rfl rfl (ze2 (zbx _)) .nil) (.cons rfl (.same rfl) (.cons rfl (.same rfl) (.cons rfl (.ms rfl) (.cons rfl (.same rfl) (.cons rfl (.same rfl) .nil)))))) ⟨0, [], rfl, y0t _, rfl, y0c _, .inl ⟨rfl, rfl⟩⟩ ?_
   clear hi2 h3 hi
   rintro mm S ⟨i, out, rfl, hi, hall, hol, ⟨rfl, rfl⟩ | ⟨k, cs, hk, hcs, rfl⟩⟩
   ·unfold zrg
    refine zsr rfl ?_
    refine zaq rfl rfl rfl (fun h3 => ?_) fun h3 => ?_
    ·have hlt : i < l.length := by
      have := of_decide_eq_true h3
      rw [zb0] at this
      omega
     have hdr : l.drop i = l[i] :: l.drop (i + 1) := y0g hlt
     rw [hdr] at hall
     have hge := zf9 hlt
     have hmem : l[i] ∈ l := y0y hlt
     generalize l[i] = y at hall hge hmem
     have h81 := eval81 y (hsl y hmem) (sw e)
     unfold evalV at h81
     rw [if_pos (hck y hmem)] at h81
     obtain ⟨yo, yi, ya⟩ := y
     refine onu (za8 (zb4 rfl (zab (zaa (za8 (zac (zsr rfl (za1 rfl ?_))))))))
     refine zbh rfl rfl (y1b i) hge rfl ?_
     refine zam rfl rfl rfl rfl (zau (za1 rfl (zad rfl rfl rfl rfl rfl rfl rfl (onr rfl (zam rfl rfl rfl rfl (za1 rfl ?_))))))
     cases hf : zdc (sw e) (.nd yo yi ya) with
     | true =>
      rw [hf] at h81
      refine zap rfl (zje rfl (zh9 (sw e) rfl)) h81 (fun _ => rfl) ?_
      repeat (first | refine za8 ?_ | refine za5 rfl ?_ | refine zai ?_ | refine zaa ?_ | refine zb7 ?_ | refine zb4 rfl ?_ | refine zbc rfl ?_ | refine za1 rfl ?_ | refine zat rfl rfl ?_ | refine zch rfl rfl ?_ | refine zoo rfl rfl rfl rfl ?_ | refine zbj rfl rfl ?_ | refine zb6 (op := .add) rfl rfl rfl ?_ | refine zby rfl rfl rfl ?_)
      exact zav (show l.length - (i + 1) < l.length - i by omega) (zgt [(0, _, (sw e).map AV.bool), (3, _, [.int .i64 (i : Nat)])] rfl rfl (by simp) (.cons rfl rfl (ze2 (zbx _)) (.cons rfl rfl (ze2 rfl) .nil)) (.cons rfl (.same rfl) (.cons rfl (.same rfl) (.cons rfl (.ms rfl) (.cons rfl (.ms rfl) (.cons rfl (zjv (congrArg (AV.int .i64) (zas i (by omega))) rfl) .nil)))))) ⟨i + 1, [(i : Int)], rfl, hlt, by rw [← hall]; simp [idxs, hf], by show 1 ≤ _; omega, .inr ⟨1, _, rfl, rfl, rfl⟩⟩
     | false =>
      rw [hf] at h81
      refine zap rfl (zje rfl (zh9 (sw e) rfl)) h81 (fun _ => rfl) ?_
      repeat (first | refine za8 ?_ | refine za5 rfl ?_ | refine zai ?_ | refine zaa ?_ | refine zb7 ?_ | refine zab ?_ | refine zb8 rfl ?_ | refine zbc rfl ?_ | refine za1 rfl ?_ | refine zat rfl rfl ?_ | refine zbj rfl rfl ?_ | refine zb6 (op := .add) rfl rfl rfl ?_ | refine zby rfl rfl rfl ?_)
      exact zav (show l.length - (i + 1) < l.length - i by omega) (zgt [(0, _, (sw e).map AV.bool)] rfl rfl (by simp) (.cons rfl rfl (ze2 (zbx _)) .nil) (.cons rfl (.same rfl) (.cons rfl (.same rfl) (.cons rfl (.ms rfl) (.cons rfl (.same rfl) (.cons rfl (zjv (congrArg (AV.int .i64) (zas i (by omega))) rfl) .nil)))))) ⟨i + 1, [], rfl, hlt, by rw [← hall]; simp [idxs, hf], y0t _, .inl ⟨rfl, rfl⟩⟩
    ·have hi2 : i = l.length := by
      have := of_decide_eq_false h3
      rw [zb0] at this
      omega
     rw [hi2, y0s, idxs, y0p] at hall
     refine onu (za8 (zb8 rfl (zbm (zao ?_))))
     refine zcn ?_
     refine zbl (zaa (zsr rfl (za1 rfl (za1 rfl (onu (zak ?_))))))
     refine zaf ⟨.inr rfl, _, rfl, ?_⟩
     rw [← hall]
     rfl
   ·unfold zrg
    have hlk : cs.length ≤ 600 := by rw [hcs, y09]; omega
    have hM : hasM.hasML cs = false := by rw [hcs]; exact zah _
    refine zsr rfl ?_
    refine zaq rfl rfl rfl (fun h3 => ?_) fun h3 => ?_
    ·have hlt : i < l.length := by
      have := of_decide_eq_true h3
      rw [zb0] at this
      omega
     have hdr : l.drop i = l[i] :: l.drop (i + 1) := y0g hlt
     rw [hdr] at hall
     have hge := zf9 hlt
     have hmem : l[i] ∈ l := y0y hlt
     generalize l[i] = y at hall hge hmem
     have h81 := eval81 y (hsl y hmem) (sw e)
     unfold evalV at h81
     rw [if_pos (hck y hmem)] at h81
     obtain ⟨yo, yi, ya⟩ := y
     refine onu (za8 (zb4 rfl (zab (zaa (za8 (zac (zsr rfl (za1 rfl ?_))))))))
     refine zbh rfl rfl (y1b i) hge rfl ?_
     refine zam rfl rfl rfl rfl (zau (za1 rfl (zad rfl rfl rfl rfl rfl rfl rfl (onr rfl (zam rfl rfl rfl rfl (za1 rfl ?_))))))
     cases hf : zdc (sw e) (.nd yo yi ya) with
     | true =>
      rw [hf] at h81
      refine zap rfl (zje rfl (zh9 (sw e) rfl)) h81 (fun _ => rfl) ?_
      repeat (first | refine za8 ?_ | refine za5 rfl ?_ | refine zai ?_ | refine zaa ?_ | refine zb4 rfl ?_ | refine zbc rfl ?_ | refine za1 rfl ?_ | refine zat rfl rfl ?_ | refine zch rfl rfl ?_ | refine zbj rfl rfl ?_ | refine zby rfl rfl rfl ?_)
      refine zbf [[.int .i64 (i : Nat)]] rfl rfl rfl (fun h => Nat.noConfusion h) rfl (by decide) rfl (by rw [hk]; omega) (by rw [hk]; show cs.length + 1 ≤ _; omega) ?_
      refine za1 rfl (zai (zb7 (zaa (za5 rfl (zb6 (op := .add) rfl rfl rfl (za1 rfl (zai ?_)))))))
      exact zav (show l.length - (i + 1) < l.length - i by omega) (zgt [(0, _, (sw e).map AV.bool), (1, _, cs ++ [.int .i64 (i : Nat)])] rfl rfl (by simp) (.cons rfl rfl (ze2 (zbx _)) (.cons rfl rfl (ze2 (zgk hM rfl)) .nil)) (.cons rfl (.same rfl) (.cons rfl (.same rfl) (.cons rfl (.ms rfl) (.cons rfl (.ms rfl) (.cons rfl (zjv (congrArg (AV.int .i64) (zas i (by omega))) rfl) .nil)))))) ⟨i + 1, out ++ [(i : Int)], rfl, hlt, by rw [← hall]; simp [idxs, hf], by rw [y0j]; show out.length + 1 ≤ _; omega, .inr ⟨k + 1, _, by rw [y0j, hk]; rfl, by rw [y22, hcs]; rfl, rfl⟩⟩
     | false =>
      rw [hf] at h81
      refine zap rfl (zje rfl (zh9 (sw e) rfl)) h81 (fun _ => rfl) ?_
      repeat (first | refine za8 ?_ | refine za5 rfl ?_ | refine zai ?_ | refine zaa ?_ | refine zb7 ?_ | refine zab ?_ | refine zb8 rfl ?_ | refine zbc rfl ?_ | refine za1 rfl ?_ | refine zat rfl rfl ?_ | refine zbj rfl rfl ?_ | refine zb6 (op := .add) rfl rfl rfl ?_ | refine zby rfl rfl rfl ?_)
      exact zav (show l.length - (i + 1) < l.length - i by omega) (zgt [(0, _, (sw e).map AV.bool), (1, _, cs)] rfl rfl (by simp) (.cons rfl rfl (ze2 (zbx _)) (.cons rfl rfl (ze2 hM) .nil)) (.cons rfl (.same rfl) (.cons rfl (.same rfl) (.cons rfl (.ms rfl) (.cons rfl (.ms rfl) (.cons rfl (zjv (congrArg (AV.int .i64) (zas i (by omega))) rfl) .nil)))))) ⟨i + 1, out, rfl, hlt, by rw [← hall]; simp [idxs, hf], by omega, .inr ⟨k, cs, hk, hcs, rfl⟩⟩
    ·have hi2 : i = l.length := by
      have := of_decide_eq_false h3
      rw [zb0] at this
      omega
     rw [hi2, y0s, idxs, y0p] at hall
     refine onu (za8 (zb8 rfl (zbm (zao ?_))))
     refine zcn ?_
     refine zbl (zaa (zsr rfl (za1 rfl (za1 rfl (onu (zak ?_))))))
     refine zaf ⟨.inr rfl, _, rfl, ?_⟩
     rw [← hall]
     subst hcs
     rw [y09] at hk
     subst hk
     exact yan out rfl
end Go.Proofs.Ytoiblgbaeglgoaa
namespace Go.Proofs.Ytoiblgbaeglgoaa
open Go Go.Am
def zw4 : List Int → Int
 | [] => 0
 | z :: zs => if z < 0 ∨ z ≥ 4 then 1 else zw4 zs
def zvo (l : List Ex) (e : List Int) : Int := if zcc l e.length = 0 then zw4 e else zcc l e.length
theorem ztd {m : Int} : ∀ {l : List Ex}, chkL m l = 0 → ∀ y ∈ l, ze5 y m = 0
 | [], _, y, hy => absurd hy y0d
 | x :: xs, h, y, hy => by
  rw [chkL] at h
  split at h
  ·rename_i h1
   rcases y0m.1 hy with he | hm
   ·rw [he]; exact h1
   ·exact ztd h y hm
  ·rename_i h1; exact absurd h h1
theorem zla {l : List Ex} {n : Int} (h : zcc l n = 0) : 1 ≤ n ∧ n ≤ 6 ∧ l.length ≤ 256 ∧ ∀ y ∈ l, ze5 y (2 * n) = 0 := by
 unfold zcc at h
 split at h
 ·exact absurd h (by decide)
 ·split at h
  ·exact absurd h (by decide)
  ·exact ⟨by omega, by omega, by omega, ztd h⟩
def ziu (l : List Ex) (e : List Int) : List Int := idxs (zdc (sw e)) 0 l
def yat (l : List Ex) (e : List Int) : AV := if zvo l e = 0 then .tup [vsI (ziu l e), .int .i64 0] else .tup [vsI [], .int .i64 (zvo l e)]
theorem yag (e : List Int) : ((sw e).length : Int) = 2 * (e.length : Int) := by
 have := zqy e
 omega
def body28 : IC := .seq (.region [oM 19 (.bin .lss (.t 18) (.t 17))] none)
 (.seq (.cond (.t 19) (.skip)
 (.exit 0))
 (.seq (.block 1 (.seq (.region [oM 20 (.idxs 1 (.t 16) (.t 18)),
  oN 21 20,
  oT 8 21] none)
 (.seq (.region [oT 22 8,
  oM 23 (.bin .lss (.t 22) (.c (.int .i64 0))),
  oT 24 23,
  ⟨(some 25), .mov (.t 8), some (24, false)⟩,
  ⟨(some 26), .bin .geq (.t 25) (.c (.int .i64 4)), some (24, false)⟩,
  oM 27 (.pick (.t 24) (.c (.bool true)) (.t 26))] none)
 (.cond (.t 27) (.seq (.region [oM 4 (.mov (.c (.nils))),
  oM 5 (.mov (.c (.int .i64 1)))] none)
 (.ret))
 (.skip)))))
 (.region [oM 28 (.bin .add (.t 18) (.c (.int .i64 1))),
  oT 18 28] none)))
-- pneumatic/guard.Which
def ic28 : IC := .seq (.region [oM 2 (.box (.t 0)),
  oM 4 (.mov (.c (.nils))),
  oM 5 (.mov (.c (.int .i64 0)))] none)
 (.seq (.seq (.region [oL 9 1 2,
  oT 10 1,
  oM 11 (.len false (.t 10)),
  oM 12 (.call (.c (.fn 80 [] [])) [(.t 9), (.t 11)]),
  oT 6 12] none)
 (.seq (.region [oT 13 6,
  oM 14 (.bin .neq (.t 13) (.c (.int .i64 0)))] none)
 (.cond (.t 14) (.seq (.region [oT 15 6,
  oM 4 (.mov (.c (.nils))),
  oT 5 15] none)
 (.ret))
 (.skip))))
 (.seq (.seq (.region [oT 16 1,
  oM 17 (.len false (.t 16)),
  oM 18 (.mov (.c (.int .i64 0)))] none)
 (.block 0 (.loop body28)))
 (.seq (.region [oF 29 0 2,
  oN 30 29,
  oT 31 1,
  oM 32 (.call (.c (.fn 83 [] [])) [(.t 30), (.t 31)]),
  oT 4 32,
  oM 5 (.mov (.c (.int .i64 0)))] none)
 (.ret))))
theorem fn28 : env0.fn 28 = some ⟨33, ic28, [.t 4, .t 5]⟩ := by kernel_rfl
set_option maxHeartbeats 2000000 in
theorem which26 (l : List Ex) (hsl : ∀ y ∈ l, Slim y) (e : List Int) : PF Try.prog 28 [.agg [.vs (cXs l)], vsI e] (yat l e) := by
 have hce : (e.map fun z => ([.int .i64 z] : List AV)).length = e.length := y09 ..
 have h28 := zo5 l hsl e.length
 refine zb1 env0_ok fn28 [(0, .agg [.vs (cXs l)]), (1, vsI e)] (by show 2 ≤ 33; decide) rfl fun w0 N0 => ?_
 unfold ic28 yat zvo
 refine zsr rfl (zc1 rfl rfl (za1 rfl (za1 rfl (onu (za8 (zsr rfl (zam rfl rfl rfl rfl (za1 rfl (zbd rfl rfl ?_)))))))))
 refine zap rfl (zje rfl (congrArg (fun n : Nat => AV.int .i64 (n : Int)) hce)) h28 noC ?_
 refine za1 rfl (onr rfl (za1 rfl ?_))
 refine zaq rfl rfl rfl (fun h1 => ?_) fun h1 => ?_
 ·have h1 := bne_iff_ne.1 h1
  simp only [if_neg h1]
  refine onu (zb4 rfl (zsr rfl (za1 rfl (za1 rfl (za1 rfl (onu (zak (za4 ?_))))))))
  exact zaf ⟨.inr rfl, _, rfl, rfl⟩
 have h1 : zcc l e.length = 0 := by simpa using h1
 simp only [if_pos h1]
 obtain ⟨g1, g2, g3, g4⟩ := zla h1
 have hel : e.length ≤ 6 := by omega
 have h53 := yas l (by omega) e (by omega) (by omega) (fun y hy => by rw [yag]; exact g4 y hy) hsl
 refine onu (zb8 rfl (zab (zaa (za8 (zsr rfl (za1 rfl (zbd rfl rfl (za1 rfl (onu (zac ?_))))))))))
 refine zbu (fun mm S => ∃ i, mm = e.length - i ∧ i ≤ e.length ∧ zw4 e = zw4 (e.drop i) ∧
   S = st 33 [(1, vsI e), (2, .mptr 0 0 0), (16, vsI e), (17, .int .i64 (e.map fun z => ([.int .i64 z] : List AV)).length), (18, .int .i64 (i : Nat))] [(0, 0, .cells [.vs (cXs l)])] 1 1) e.length
  (zan (.cons rfl (.cons rfl (.cons rfl (.cons rfl (.cons rfl .nil)))))) ⟨0, rfl, y0t _, rfl, rfl⟩ ?_
 rintro mm S ⟨i, rfl, hi, hall, rfl⟩
 unfold body28
 refine zsr rfl ?_
 refine zaq rfl rfl rfl (fun h3 => ?_) fun h3 => ?_
 ·have hlt : i < e.length := by
   have := of_decide_eq_true h3
   rw [hce] at this
   omega
  have hdr : e.drop i = e[i] :: e.drop (i + 1) := y0g hlt
  rw [hdr, zw4] at hall
  have hge := zp7 e i hlt
  generalize e[i] = z at hall hge
  refine onu (za8 (zb4 rfl (zab (zaa (za8 (zac (zsr rfl ?_)))))))
  refine zbh rfl rfl (y1b i) hge rfl ?_
  refine za7 rfl rfl (za1 rfl (onr rfl (za1 rfl ?_)))
  refine zaq rfl rfl rfl (fun h4 => ?_) fun h4 => ?_
  ·have h4 := of_decide_eq_true h4
   rw [if_pos (.inl h4)] at hall
   refine za1 rfl (zbz rfl rfl (zbz rfl rfl (zat rfl rfl (onu (zb4 rfl (zsr rfl (za1 rfl (za1 rfl (onu (zak ?_))))))))))
   refine zag (za4 ?_)
   refine zbb ?_
   refine zag (za4 ?_)
   refine zaf ⟨.inr rfl, _, rfl, ?_⟩
   rw [ hall]
   rfl
  have h4 := of_decide_eq_false h4
  refine za1 rfl (zbc rfl (za1 rfl (zbc rfl ?_)))
  refine zaq rfl rfl rfl (fun h5 => ?_) fun h5 => ?_
  ·have h5 := of_decide_eq_true h5
   rw [if_pos (.inr h5)] at hall
   refine zal rfl rfl (onu (zb4 rfl (zsr rfl (za1 rfl (za1 rfl (onu (zak (zag (za4 ?_)))))))))
   refine zbb ?_
   refine zag (za4 ?_)
   refine zaf ⟨.inr rfl, _, rfl, ?_⟩
   rw [ hall]
   rfl
  have h5 := of_decide_eq_false h5
  rw [if_neg (fun h => h.elim h4 h5)] at hall
  refine zal rfl rfl (onu (zb8 rfl (zab (zb7 (zaa (za5 rfl (zb6 (op := .add) rfl rfl rfl (za1 rfl (zai ?_)))))))))
  rw [zas i (by omega)]
  exact zav (show e.length - (i + 1) < e.length - i by omega) (zan (.cons rfl (.cons rfl (.cons rfl (.cons rfl (.cons rfl .nil)))))) ⟨i + 1, rfl, hlt, hall, rfl⟩
 ·have hi2 : i = e.length := by
   have := of_decide_eq_false h3
   rw [hce] at this
   omega
  rw [hi2, y0s, zw4] at hall
  refine onu (za8 (zb8 rfl (zbm (zao ?_))))
  refine zcn ?_
  refine zbl (zaa (zsr rfl (za9 rfl (za7 rfl rfl (za1 rfl ?_)))))
  refine zap rfl rfl h53 noC ?_
  refine za1 rfl (za1 rfl (onu (zak ?_)))
  refine zaf ⟨.inr rfl, _, rfl, ?_⟩
  rw [hall, if_pos rfl]
  rfl
end Go.Proofs.Ytoiblgbaeglgoaa
namespace Go.Proofs.Ytoiblgbaeglgoaa
open Go Go.Am
def znk (l : List Ex) (e : List Int) : AV := if zvo l e = 0 then .tup [.bool (ziu l e).isEmpty, .int .i64 0] else .tup [.bool false, .int .i64 (zvo l e)]
theorem zz1 (l : List Int) : ((((l.map fun z => ([.int .i64 z] : List AV)).length : Nat) : Int) == 0) = l.isEmpty := by
 cases l with
 | nil => rfl
 | cons a t =>
  have : ¬ ((((a :: t).map fun z => ([.int .i64 z] : List AV)).length : Nat) : Int) = 0 := by
   rw [y09, y0n]; omega
  simpa using this
-- pneumatic/guard.Allowed
def ic25 : IC := .seq (.region [oM 2 (.box (.t 0)),
  oM 4 (.mov (.c (.bool false))),
  oM 5 (.mov (.c (.int .i64 0)))] none)
 (.seq (.region [oL 9 1 2,
  oT 10 1,
  oM 11 (.call (.c (.fn 28 [] [])) [(.t 9), (.t 10)]),
  oT 8 11,
  oM 12 (.extract (.t 8) 0),
  oM 13 (.extract (.t 8) 1),
  oT 6 12,
  oT 7 13] none)
 (.seq (.region [oT 14 7,
  oM 15 (.bin .eql (.t 14) (.c (.int .i64 0))),
  oT 16 15,
  ⟨(some 17), .mov (.t 6), some (16, true)⟩,
  ⟨(some 18), .len false (.t 17), some (16, true)⟩,
  ⟨(some 19), .bin .eql (.t 18) (.c (.int .i64 0)), some (16, true)⟩,
  oM 20 (.pick (.t 16) (.t 19) (.c (.bool false))),
  oT 21 7,
  oT 4 20,
  oT 5 21] none)
 (.ret)))
theorem fn25 : env0.fn 25 = some ⟨22, ic25, [.t 4, .t 5]⟩ := by kernel_rfl
set_option maxHeartbeats 2000000 in
theorem zwo (l : List Ex) (hsl : ∀ y ∈ l, Slim y) (e : List Int) : PF Try.prog 25 [.agg [.vs (cXs l)], vsI e] (znk l e) := by
 have h26 := which26 l hsl e
 refine zb1 env0_ok fn25 [(0, .agg [.vs (cXs l)]), (1, vsI e)] (by show 2 ≤ 22; decide) rfl fun w0 N0 => ?_
 unfold ic25 znk
 unfold yat at h26
 refine zsr rfl (zc1 rfl rfl (za1 rfl (za1 rfl (onr rfl (zam rfl rfl rfl rfl (za1 rfl ?_))))))
 by_cases h1 : zvo l e = 0
 ·rw [if_pos h1] at h26
  rw [if_pos h1]
  refine zap rfl rfl h26 noC ?_
  repeat (first | refine za8 ?_ | refine za5 rfl ?_ | refine zai ?_ | refine zaa ?_ | refine zbc rfl ?_ | refine za1 rfl ?_ | refine zbd rfl rfl ?_ | refine zbj rfl rfl ?_ | refine zby rfl rfl rfl ?_)
  refine zb6 (op := .eql) rfl rfl rfl ?_
  rw [zz1]
  refine zat rfl rfl (za1 rfl (za1 rfl (za1 rfl (onu (zak ?_)))))
  exact zaf ⟨.inr rfl, _, rfl, rfl⟩
 ·rw [if_neg h1] at h26
  rw [if_neg h1]
  refine zap rfl rfl h26 noC ?_
  refine za1 rfl (zbj rfl rfl (zbj rfl rfl (za1 rfl (za1 rfl (onr rfl (za1 rfl ?_))))))
  refine zaq rfl rfl rfl (fun h2 => absurd (beq_iff_eq.1 h2) h1) fun _ => ?_
  refine za1 rfl (zbz rfl rfl (zbz rfl rfl (zbz rfl rfl (zal rfl rfl (za1 rfl (za1 rfl (za1 rfl (onu (zak ?_)))))))))
  exact zaf ⟨.inr rfl, _, rfl, rfl⟩
end Go.Proofs.Ytoiblgbaeglgoaa
namespace Go.Proofs.Ytoiblgbaeglgoaa
open Go Go.Am
-- slices.Equal[[]int,int]
end Go.Proofs.Ytoiblgbaeglgoaa
namespace Go.Proofs.Ytoiblgbaeglgoaa
open Go Go.Am Go.ChangeShapes Go.WideShapes Go.ChangeAt Go.RowKit Go.Deep
section
variable {H : Type} {enc : TypeId × Value → H} {w : World} {base : Nat} {spare : Nat → Bool} {held : Bool}
theorem rdT : Rd enc Try.prog w base spare held 51 fun d => cX (exD d) :=
 rd_tree Try.underlying51 rfl Try.underlying3 (by kernel_rfl) Try.underlying22 (by kernel_rfl) (by rw [show Try.prog.cellsOf 51 = 3 from by kernel_rfl]; decide) (by kernel_rfl)
theorem rdG : Rd enc Try.prog w base spare held 24 (zf8 [zhy fun d => cX (exD d)]) := by
 refine zzv Try.underlying24 rfl (by kernel_rfl) fun i f g e1 e2 => ?_
 match i, e1, e2 with
 | 0, e1, e2 => injection e1 with e1; injection e2 with e2; subst e1 e2; exact zud Try.underlying22 (by kernel_rfl) (by rw [show Try.prog.cellsOf 51 = 3 from by kernel_rfl]; decide) rdT
 | i + 1, e1, e2 => simp at e1
theorem slimG {n : Nat} {cs : List Value} {d : DataW H} {p : List MemPlace} (h : DataW.trod enc Try.prog w base spare held n 24 cs = some (d, p)) :
  (zee ((zdl d).headD .nil)).length < 9223372036854775808 ∧ ∀ x ∈ zee ((zdl d).headD .nil), Slim (exD x) := by
 obtain ⟨xs, n', _, hx, hlen, hxl, hall⟩ := DataW.trod_struct Try.underlying24 h
 simp only [y0a] at hx
 obtain ⟨rfl, rfl⟩ := hx
 obtain ⟨x0, rfl⟩ : ∃ a, xs = [a] := by
  match xs, hxl with
  | [a], _ => exact ⟨a, rfl⟩
 have h2 := hall 0 _ rfl
 have h2' : _ = some x0 := h2
 show (zee x0.1).length < _ ∧ ∀ x ∈ zee x0.1, Slim (exD x)
 rcases Deep.open_slice Try.underlying22 h2' with ⟨_, hx⟩ | ⟨a, len, cap, m, n2, D, Pl, _, hb, hle, hm, hmm, hx, hel⟩
 ·subst hx
  exact ⟨by show 0 < _; decide, fun y hy => absurd hy y0d⟩
 ·subst hx
  have hlm : len ≤ m := by rw [hmm]; split <;> omega
  refine ⟨?_, fun x hx => ?_⟩
  ·show ((List.range len).map D).length < _
   rw [y09, y20]
   have : maxLen = 9223372036854775807 := rfl
   omega
  ·have hx' : x ∈ (List.range len).map D := hx
   obtain ⟨i, hi, rfl⟩ := y0o.1 hx'
   obtain ⟨cs', h1, h3⟩ := hel i (by have := y10.1 hi; omega)
   exact yab Try.underlying51 rfl Try.underlying22 _ (D i) (y0c _) _ _ _ h3
end
end Go.Proofs.Ytoiblgbaeglgoaa
namespace Go.Proofs.Ytoiblgbaeglgoaa
open Go Go.Am
end Go.Proofs.Ytoiblgbaeglgoaa
