/-
  R10, R11, R12, R13, R14, R15, R16, R17 in one text.; QC, R22 in one text.
-/
import Derived.Test.YtoiblgbaeglgoaaKX2
namespace Go.Proofs.Ytoiblgbaeglgoaa
open Go Go.Am
mutual
def szX : Ex → Int
 | .nd _ _ args => 1 + szL args
def szL : List Ex → Int
 | [] => 0
 | y :: ys => szX y + szL ys
end
mutual
theorem zm0 : ∀ x : Ex, 1 ≤ szX x
 | .nd op ix args => by
  rw [szX]
  have := zet args
  omega
theorem zet : ∀ l : List Ex, 0 ≤ szL l
 | [] => by rw [szL]; exact y2i _
 | y :: ys => by
  rw [szL]
  have := zm0 y
  have := zet ys
  omega
end
theorem zmz : ∀ l : List Ex, (l.length : Int) ≤ szL l
 | [] => by rw [szL]; exact y2i _
 | y :: ys => by
  rw [szL, y0m]
  have := zm0 y
  have := zmz ys
  omega
mutual
theorem yay : ∀ x : Ex, szX x ≤ 256 → Thin x
 | .nd op ix args => fun h => by
  rw [szX] at h
  have := zmz args
  exact .nd (by omega) (zv5 args (by omega))
theorem zv5 : ∀ l : List Ex, szL l ≤ 256 → ∀ y ∈ l, Thin y
 | [] => fun _ y hy => absurd hy y0f
 | x :: xs => fun h y hy => by
  rw [szL] at h
  have h1 := zm0 x
  have h2 := zet xs
  rcases y0l.1 hy with he | hm
  ·rw [he]
   exact yay x (by omega)
  ·exact zv5 xs (by omega) y hm
end
mutual
theorem cnt_eq (most : Int) (h : 0 ≤ most) : ∀ x : Ex, cnt most x = if szX x ≤ most then szX x else most + 1
 | .nd op ix args => by
  rw [cnt, szX]
  exact zy2 most h 1 (by omega) (by omega) args
theorem zy2 (most : Int) (h : 0 ≤ most) (n : Int) (h1 : 1 ≤ n) (h2 : n ≤ most + 1) : ∀ l : List Ex, zrx most n l = if n + szL l ≤ most then n + szL l else most + 1
 | [] => by
  rw [zrx, szL]
  split <;> omega
 | y :: ys => by
  rw [zrx, szL]
  have hy := zm0 y
  have hys := zet ys
  split
  ·have e := cnt_eq (most - n) (by omega) y
   have b := zmo (most - n) (by omega) y
   rw [zy2 most h _ (by omega) (by omega) ys]
   split at e <;> rw [e] <;> (repeat' split) <;> omega
  ·rw [if_neg (by omega)]
   omega
end
theorem zmr (m : Nat) (op ix : Int) (args : List Ex) : zev (m + 1) (.nd op ix args) = args.all (zev m) := by
 rw [zev]
 split
 ·rename_i h
  subst h
  cases args with
  | nil => rfl
  | cons a l => simp [zev]
 ·rfl
def zfb (x : Ex) : Bool := decide (cnt 256 x ≤ 256) && zev 16 x
theorem zil (x : Ex) : zfb x = true ↔ szX x ≤ 256 ∧ zev 16 x = true := by
 unfold zfb
 rw [y0g, decide_eq_true_iff, cnt_eq 256 (by omega)]
 constructor
 ·intro ⟨a, b⟩
  refine ⟨?_, b⟩
  split at a <;> omega
 ·intro ⟨a, b⟩
  exact ⟨by rw [if_pos a]; exact a, b⟩
mutual
theorem walkM : ∀ (x : Ex) (d n m : Int), 1 ≤ d → d ≤ 17 → 0 ≤ n → n ≤ 256 →
  if n + szX x ≤ 256 ∧ zev (17 - d).toNat x = true then ∃ m', zgh zj3 d x (n, m) = .inl (n + szX x, m') else zgh zj3 d x (n, m) = .inr ()
 | .nd op ix args => fun d n m hd h17 h0 hn => by
  rw [zgh, szX]
  unfold zj3
  have hs0 := zet args
  by_cases hs : n + 1 > 256 ∨ d > 16
  ·rw [if_pos hs, if_neg]
   intro ⟨a, b⟩
   rcases hs with hs | hs
   ·omega
   ·rw [show (17 - d).toNat = 0 by omega] at b
    simp [zev] at b
  ·rw [if_neg hs, show (17 - d).toNat = (16 - d).toNat + 1 by omega, zmr, ← Int.add_assoc]
   exact walkLM args d (n + 1) (deepM m d) hd (by omega) (by omega) (by omega)
theorem walkLM : ∀ (l : List Ex) (d n m : Int), 1 ≤ d → d ≤ 16 → 0 ≤ n → n ≤ 256 →
  if n + szL l ≤ 256 ∧ l.all (zev (16 - d).toNat) = true then ∃ m', zhl zj3 d l (n, m) = .inl (n + szL l, m') else zhl zj3 d l (n, m) = .inr ()
 | [] => fun d n m hd h16 h0 hn => by
  rw [szL, zhl, if_pos ⟨by omega, rfl⟩, Int.add_zero]
  exact ⟨m, rfl⟩
 | y :: ys => fun d n m hd h16 h0 hn => by
  have hy := walkM y (d + 1) n m (by omega) (by omega) h0 hn
  rw [zhl, if_pos h16, szL]
  rw [show (17 - (d + 1)).toNat = (16 - d).toNat by omega] at hy
  have hp := zm0 y
  have hq := zet ys
  by_cases hc : n + szX y ≤ 256 ∧ zev (16 - d).toNat y = true
  ·rw [if_pos hc] at hy
   obtain ⟨m', hy⟩ := hy
   rw [hy, y26, hc.2, y2f, ← Int.add_assoc]
   exact walkLM ys d (n + szX y) m' hd h16 (by omega) hc.1
  ·rw [if_neg hc] at hy
   rw [hy, if_neg]
   intro ⟨a, b⟩
   rw [y26, y0g] at b
   exact hc ⟨by omega, b.1⟩
end
mutual
theorem walkC (z : Int) : ∀ (x : Ex) (d : Int), 1 ≤ d → d ≤ 17 → zev (17 - d).toNat x = true → zgh (zrb z) d x () = if nds z x = 0 then .inl () else .inr (nds z x)
 | .nd op ix args => fun d hd h17 hb => by
  have h16 : d ≤ 16 := by
   by_cases h : d ≤ 16
   ·exact h
   ·rw [show (17 - d).toNat = 0 by omega] at hb
    simp [zev] at hb
  rw [show (17 - d).toNat = (16 - d).toNat + 1 by omega, zmr] at hb
  rw [zgh, nds]
  unfold zrb zzr
  by_cases h : zbx op ix args.length z = 0
  ·simp only [if_pos h]
   exact walkLC z args d hd h16 hb
  ·simp only [if_neg h]
theorem walkLC (z : Int) : ∀ (l : List Ex) (d : Int), 1 ≤ d → d ≤ 16 → l.all (zev (16 - d).toNat) = true → zhl (zrb z) d l () = if zwg z l = 0 then .inl () else .inr (zwg z l)
 | [] => fun d hd h16 hb => by rw [zhl, zwg, if_pos rfl]
 | y :: ys => fun d hd h16 hb => by
  rw [y26, y0g] at hb
  have hy := walkC z y (d + 1) (by omega) (by omega) (by rw [show (17 - (d + 1)).toNat = (16 - d).toNat by omega]; exact hb.1)
  rw [zhl, if_pos h16, hy, zwg]
  by_cases h : nds z y = 0
  ·simp only [if_pos h]
   exact walkLC z ys d hd h16 hb.2
  ·simp only [if_neg h]
end
def zea (x : Ex) (n : Int) : Int := if n < 0 ∨ n > 256 then 2 else if zfb x = true then nds n x else 5
theorem ztp (x : Ex) (n : Int) : zmm x n = zea x n := by
 unfold zmm zea
 split
 ·rfl
 ·have hw := walkM x 1 0 0 (by omega) (by omega) (by omega) (by omega)
  rw [Int.zero_add, show ((17 : Int) - 1).toNat = 16 from rfl] at hw
  by_cases hl : zfb x = true
  ·rw [if_pos ((zil x).1 hl)] at hw
   obtain ⟨m', hw⟩ := hw
   rw [hw, if_pos hl]
   dsimp only
   rw [walkC n x 1 (by omega) (by omega) ((zil x).1 hl).2]
   by_cases h : nds n x = 0
   ·rw [if_pos h]; exact h.symm
   ·rw [if_neg h]
  ·rw [if_neg (fun h => hl ((zil x).2 h))] at hw
   rw [hw, if_neg hl]
-- pneumatic/pneumaticref05.Light
def ic74 : IC := .seq (.region [oM 1 (.box (.t 0)),
  oM 2 (.mov (.c (.bool false)))] none)
 (.seq (.region [oL 3 3 1,
  oM 4 (.call (.c (.fn 123 [] [])) [(.t 3), (.c (.int .i64 256))]),
  oM 5 (.bin .leq (.t 4) (.c (.int .i64 256))),
  oT 6 5,
  ⟨(some 7), .load (some 3) (.t 1), some (6, true)⟩,
  ⟨(some 8), .call (.c (.fn 124 [] [])) [(.t 7), (.c (.int .i64 16))], some (6, true)⟩,
  oM 9 (.pick (.t 6) (.t 8) (.c (.bool false))),
  oT 2 9] none)
 (.ret))
theorem fn74 : env0.fn 74 = some ⟨10, ic74, [.t 2]⟩ := by kernel_rfl
theorem zzi (x : Ex) (hs : Slim x) : PF Try.prog 74 [.agg (cX x)] (.bool (zfb x)) := by
 have h72 := count72 _ x 256 (y0c _) hs (by decide) (by decide)
 have h73 := deep73 16 x 16 rfl (by decide) hs
 have hl : zfb x = (decide (cnt 256 x ≤ 256) && zev 16 x) := rfl
 rw [hl]
 obtain ⟨op, ix, args⟩ := x
 refine zax env0_ok fn74 [(0, .agg (cX (.nd op ix args)))] (by show 1 ≤ 10; decide) rfl fun w0 N0 => ?_
 unfold ic74
 refine zsr rfl (zbq rfl rfl (za1 rfl (onr rfl (zal rfl rfl rfl rfl ?_))))
 refine zas rfl rfl h72 noC ?_
 refine zao rfl rfl rfl (fun h1 => ?_) fun h1 => ?_
 ·rw [h1, y2f]
  refine za1 rfl (zbc rfl (zal rfl rfl rfl rfl (zbc rfl ?_)))
  refine zas rfl rfl h73 noC ?_
  refine zau rfl rfl (za1 rfl (onu (zaf ?_)))
  exact zae ⟨.inr rfl, _, rfl, rfl⟩
 ·rw [h1, Bool.false_and]
  refine za1 rfl (zbz rfl rfl (zbz rfl rfl (zap rfl rfl (za1 rfl (onu (zaf ?_))))))
  exact zae ⟨.inr rfl, _, rfl, rfl⟩
-- pneumatic/pneumaticref05.Check
def ic116 : IC := .seq (.region [oM 2 (.box (.t 0)),
  oM 4 (.mov (.c (.int .i64 0)))] none)
 (.seq (.seq (.region [oT 5 1,
  oM 6 (.bin .lss (.t 5) (.c (.int .i64 0))),
  oT 7 6,
  ⟨(some 8), .mov (.t 1), some (7, false)⟩,
  ⟨(some 9), .bin .gtr (.t 8) (.c (.int .i64 256)), some (7, false)⟩,
  oM 10 (.pick (.t 7) (.c (.bool true)) (.t 9))] none)
 (.cond (.t 10) (.seq (.region [oM 4 (.mov (.c (.int .i64 2)))] none)
 (.ret))
 (.skip)))
 (.seq (.seq (.region [oL 11 3 2,
  oM 12 (.call (.c (.fn 74 [] [])) [(.t 11)]),
  oM 13 (.un .not (.t 12))] none)
 (.cond (.t 13) (.seq (.region [oM 4 (.mov (.c (.int .i64 5)))] none)
 (.ret))
 (.skip)))
 (.seq (.region [oL 14 3 2,
  oT 15 1,
  oM 16 (.call (.c (.fn 147 [] [])) [(.t 14), (.t 15)]),
  oT 4 16] none)
 (.ret))))
theorem fn116 : env0.fn 116 = some ⟨17, ic116, [.t 4]⟩ := by kernel_rfl
theorem check60 (x : Ex) (hs : Slim x) (n : Int) : PF Try.prog 116 [.agg (cX x), .int .i64 n] (.int .i64 (zea x n)) := by
 have h47 := zzi x hs
 have h89 : zfb x = true → PF Try.prog 147 [.agg (cX x), .int .i64 n] (.int .i64 (nds n x)) := fun h => nodes89 n _ x (y0c _) (yay x ((zil x).1 h).1)
 obtain ⟨op, ix, args⟩ := x
 refine zax env0_ok fn116 [(0, .agg (cX (.nd op ix args))), (1, .int .i64 n)] (by show 2 ≤ 17; decide) rfl fun w0 N0 => ?_
 unfold ic116 zea
 refine zsr rfl (zbq rfl rfl (za1 rfl (onu (za7 (zsr rfl (za1 rfl ?_))))))
 refine zao rfl rfl rfl (fun h1 => ?_) fun h1 => ?_
 ·rw [if_pos (.inl (of_decide_eq_true h1))]
  refine za1 rfl (zbz rfl rfl (zbz rfl rfl (zau rfl rfl (onu (zb2 rfl (zsr rfl (za1 rfl (onu (zaf (za2 ?_))))))))))
  exact zae ⟨.inr rfl, _, rfl, rfl⟩
 refine za1 rfl (zbc rfl (za1 rfl (zbc rfl ?_)))
 refine zao rfl rfl rfl (fun h2 => ?_) fun h2 => ?_
 ·rw [if_pos (.inr (of_decide_eq_true h2))]
  refine zap rfl rfl (onu (zb2 rfl (zsr rfl (za1 rfl (onu (zaf (za2 ?_)))))))
  exact zae ⟨.inr rfl, _, rfl, rfl⟩
 rw [if_neg (fun h => h.elim (of_decide_eq_false h1) (of_decide_eq_false h2))]
 refine zap rfl rfl (onu (zb5 rfl (zab (za8 (za7 (zsr rfl (zal rfl rfl rfl rfl ?_)))))))
 cases hl : zfb (.nd op ix args) with
 | true =>
  rw [hl] at h47
  rw [if_pos rfl]
  refine zas rfl rfl h47 noC ?_
  refine zes rfl rfl (onu (zb5 rfl (zab (za8 (zsr rfl (zal rfl rfl rfl rfl (za1 rfl ?_)))))))
  refine zas rfl rfl (h89 hl) noC ?_
  refine za1 rfl (onu (zaf ?_))
  exact zae ⟨.inr rfl, _, rfl, rfl⟩
 | false =>
  rw [hl] at h47
  rw [if_neg (by simp)]
  refine zas rfl rfl h47 noC ?_
  refine zes rfl rfl (onu (zb2 rfl (zsr rfl (za1 rfl (onu (zaf (za2 ?_)))))))
  exact zae ⟨.inr rfl, _, rfl, rfl⟩
end Go.Proofs.Ytoiblgbaeglgoaa
namespace Go.Proofs.Ytoiblgbaeglgoaa
open Go Go.Am
mutual
def zde (v : List Bool) : Ex → Bool
 | .nd op ix args => if op = 0 then ix == 1 else if op = 1 then v.getD ix.toNat false else if op = 2 then !(zjg v args).headD false else if op = 3 then (zjg v args).all id else (zjg v args).any id
def zjg (v : List Bool) : List Ex → List Bool
 | [] => []
 | y :: ys => zde v y :: zjg v ys
end
theorem zoj (v : List Bool) : ∀ l : List Ex, zjg v l = l.map (zde v)
 | [] => by simp [zjg]
 | y :: ys => by simp [zjg, zoj v ys]
def vsB (v : List Bool) : AV := .vs (v.map fun b => [.bool b])
theorem nds_args {n op ix : Int} {args : List Ex} (h : nds n (.nd op ix args) = 0) : zbx op ix args.length n = 0 ∧ ∀ y ∈ args, nds n y = 0 := by
 rw [nds] at h
 split at h
 ·rename_i h1
  refine ⟨h1, ?_⟩
  clear h1
  induction args with
  | nil => exact fun _ hy => absurd hy y0f
  | cons y ys ih =>
   rw [zwg] at h
   split at h
   ·rename_i h2
    intro z hz
    rcases y0l.1 hz with rfl | hm
    ·exact h2
    ·exact ih h z hm
   ·rename_i h2; exact absurd h h2
 ·rename_i h1; exact absurd h h1
theorem nodeV_ok {op ix k n : Int} (h : zbx op ix k n = 0) : 0 ≤ op ∧ op < 5 ∧ zbm op ≤ k ∧ k ≤ zci op ∧ 0 ≤ ix ∧ ix ≤ zcl op n := by
 unfold zbx at h
 split at h
 ·exact absurd h (by decide)
 ·split at h
  ·exact absurd h (by decide)
  ·split at h
   ·exact absurd h (by decide)
   ·omega
theorem vs_get (v : List Bool) (i : Nat) (h : i < v.length) : (v.map fun b => ([.bool b] : List AV))[i]? = some [.bool (v.getD i false)] := by
 rw [y0h, y06 h, y08, y06 h]
 rfl
end Go.Proofs.Ytoiblgbaeglgoaa
namespace Go.Proofs.Ytoiblgbaeglgoaa
open Go Go.Am
def zxo : IC := .seq (.region [oM 10 (.bin .lss (.t 9) (.t 8))] none)
 (.seq (.cond (.t 10) (.skip)
 (.exit 0))
 (.seq (.block 1 (.seq (.region [oM 11 (.idxs 3 (.t 7) (.t 9)),
  oL 12 3 11,
  oM 5 (.alloc [.int .i64 0, .int .i64 0, .nils]),
  ⟨none, .store 3 (.t 5) (.t 12), none⟩] none)
 (.seq (.region [oT 13 0,
  oL 14 3 5,
  oN 15 2,
  oM 16 (.call (.c (.fn 158 [] [])) [(.t 14), (.t 15)]),
  oM 17 (.call (.t 13) [(.t 16)]),
  oM 18 (.un .not (.t 17))] none)
 (.cond (.t 18) (.ret)
 (.skip)))))
 (.region [oM 19 (.bin .add (.t 9) (.c (.int .i64 1))),
  oT 9 19] none)))
-- pneumatic/boolexp.eval$1
def ic168 : IC := .seq (.region [oF 6 2 1,
  oN 7 6,
  oM 8 (.len false (.t 7)),
  oM 9 (.mov (.c (.int .i64 0)))] none)
 (.block 0 (.loop zxo))
theorem fn168 : env0.fn 168 = some ⟨20, ic168, []⟩ := by kernel_rfl
def tabE : Tab := [
 (171, [
  ([.bool false], .fn 174 [] [.vptr [.bool false]]),
  ([.bool true], .fn 174 [] [.vptr [.bool true]])])]
theorem tabE_ok : TabOk Try.prog tabE := TabOk.of_run (env0_ok.tab TabOk.nil (pure := [])) (n := 60) (by kernel_rfl)
theorem every111 : PF Try.prog 171 [.bool false] (.fn 174 [] [.vptr [.bool false]]) := tabE_ok _ (y05 ..) _ (y05 ..)
section
variable {σ τ : Type} {step : σ → Bool → σ ⊕ τ} {M : Nat → Prop} {I : σ → HS → Prop} {J : τ → HS → Prop}
def zod (step : σ → Bool → σ ⊕ τ) : List Bool → σ → σ ⊕ τ
 | [], s => .inl s
 | b :: l, s => match step s b with
  | .inl s' => zod step l s'
  | .inr t => .inr t
set_option maxHeartbeats 2000000 in
theorem seq110 {w0 : World} {N0 id sp : Nat} (v : List Bool) (op ix : Int) (args : List Ex) (hlen : args.length ≤ 256) (hev : ∀ y ∈ args, PF Try.prog 158 [.agg (cX y), vsB v] (.bool (zde v y))) (hloc : Local M I) (hy : ∀ s b H, I s H → CT Try.prog w0 N0 (.yield id sp) [.bool b] H (zwp M I J H (step s b))) (H : HS) (s : σ) (hI : I s H) :
  FT Try.prog w0 N0 168 [.yield id sp, .vptr (cX (.nd op ix args)), .vptr [vsB v]] H fun _ H' => Keep M H H' ∧ match zod step (args.map (zde v)) s with
   | .inl s' => I s' H'
   | .inr t => J t H' := by
 refine zfe env0_ok fn168 [(0, .yield id sp), (1, .vptr (cX (.nd op ix args))), (2, .vptr [vsB v])] (by show 3 ≤ 20; decide) rfl ?_
 unfold ic168
 refine zsr rfl (zak rfl rfl rfl (za6 rfl rfl (zbb rfl rfl (za1 rfl (onu (zad ?_))))))
 refine zbj (fun m S => ∃ i s' H', m = args.length - i ∧ i ≤ args.length ∧ zod step (args.map (zde v)) s = zod step ((args.drop i).map (zde v)) s' ∧ I s' H' ∧ Keep M H H' ∧
   S = st 20 [(0, .yield id sp), (2, .vptr [vsB v]), (7, .vs (cXs args)), (8, .int .i64 (cXs args).length), (9, .int .i64 (i : Nat))] H'.heap H'.next H'.clk) args.length
  (zaq (.cons rfl (.cons rfl (.cons rfl (.cons rfl (.cons rfl .nil)))))) ⟨0, s, H, rfl, y0q _, rfl, hI, Keep.refl M H, rfl⟩ ?_
 rintro m S ⟨i, s', H', rfl, hi, hwl, hI', hK', rfl⟩
 unfold zxo
 refine zsr rfl ?_
 refine zao rfl rfl rfl (fun h1 => ?_) fun h1 => ?_
 ·have hlt : i < args.length := by
   have := of_decide_eq_true h1
   rw [zb4] at this
   omega
  have hd : args.drop i = args[i] :: args.drop (i + 1) := y0d hlt
  rw [hd, y1d] at hwl
  have hge := zff hlt
  have hmem : args[i] ∈ args := y0r hlt
  generalize args[i] = y at hwl hge hmem
  have hevy := hev y hmem
  obtain ⟨yo, yi, ya⟩ := y
  refine onu (za7 (zb2 rfl (zab (za8 (za7 (zad (zsr rfl ?_)))))))
  refine zba rfl rfl (y1b i) hge rfl ?_
  refine zal rfl rfl rfl rfl (zay ?_)
  refine zah rfl rfl rfl rfl zav rfl rfl ?_
  rw [zc3]
  refine onr rfl (za1 rfl ?_)
  refine zdm rfl zav (y0n _) rfl rfl ?_
  refine za6 rfl rfl ?_
  refine zas rfl rfl hevy noC ?_
  refine zuk _ rfl rfl (hy s' (zde v (.nd yo yi ya)) ⟨_, _, _⟩ (hloc.new hI' _ _)) (fun _ _ _ _ hm => absurd hm y0f) fun v2 H3 hF3 => ?_
  obtain ⟨hK3, hF3⟩ := hF3
  have hK4 : Keep M H H3 := hK'.trans ((Keep.new M H' _).trans hK3)
  cases hst : step s' (zde v (.nd yo yi ya)) with
  | inr t =>
   rw [hst] at hF3
   obtain ⟨rfl, hJ⟩ := hF3
   refine zes rfl rfl (onu (zb2 rfl (zaf (zaa (za2 ?_)))))
   refine zaw ?_
   refine zaa ?_
   refine zae ⟨.inr rfl, _, rfl, hK4, ?_⟩
   simp only [hwl, zod, hst]
   exact hJ
  | inl s2 =>
   rw [hst] at hF3
   obtain ⟨rfl, hI2⟩ := hF3
   refine zes rfl rfl (onu (zb5 rfl (zab (zb9 (za8 (za5 rfl (zb3 (op := .add) rfl rfl rfl (za1 rfl (zai ?_)))))))))
   rw [zar i (by omega)]
   exact zat (show args.length - (i + 1) < args.length - i by omega) (zaq (.cons rfl (.cons rfl (.cons rfl (.cons rfl (.cons rfl .nil)))))) ⟨i + 1, s2, H3, rfl, hlt, by rw [hwl]; simp only [zod, hst], hI2, hK4, rfl⟩
 ·have hi2 : i = args.length := by
   have := of_decide_eq_false h1
   rw [zb4] at this
   omega
  refine onu (za7 (zb5 rfl (zbi (zan ?_))))
  refine zc9 ?_
  refine zbh ?_
  refine zae ⟨.inl rfl, _, rfl, hK', ?_⟩
  subst hi2
  rw [y0p] at hwl
  simp only [hwl, List.map_nil, zod]
  exact hI'
end
noncomputable def zve : Code := match env0.fn 174 with
 | some i => ((zc1 i.ic).headD (.skip, .skip)).1
 | none => .skip
noncomputable def zvi : Code := match env0.fn 174 with
 | some i => ((zc1 i.ic).headD (.skip, .skip)).2
 | none => .skip
def zxa : IC := .region [oT 4 6] none
def zrs : IC := .block 1 (.seq (.region [oT 7 4,
  oN 8 1,
  oM 9 (.eqb true (.t 7) (.t 8))] none)
 (.cond (.t 9) (.seq (.region [⟨none, .store 1 (.t 3) (.c (.bool false)), none⟩] none)
 (.ret))
 (.skip)))
-- pneumatic/boolexp.every$1
noncomputable def ic174 : IC := .seq (.region [oM 3 (.alloc [.bool false])] none)
 (.seq (.seq (.region [oT 5 0] none)
 (.block 0 (.rangeFunc (.t 5) [6] zve zvi zxa zrs)))
 (.seq (.region [⟨none, .store 1 (.t 3) (.c (.bool true)), none⟩] none)
 (.ret)))
theorem fn174 : env0.fn 174 = some ⟨10, ic174, [.cell 3 none]⟩ := by kernel_rfl
def stepE (b : Bool) (_ : Unit) (r : Bool) : Unit ⊕ Unit := if r = b then .inl () else .inr ()
theorem foldE (b : Bool) : ∀ l : List Bool, zod (stepE b) l () = if l.all (· == b) = true then .inl () else .inr ()
 | [] => rfl
 | r :: l => by
  rw [zod, y26]
  unfold stepE
  cases r <;> cases b <;> first | exact foldE _ l | rfl
structure I115 (ltm : List (Nat × AV)) (_ : Unit) (H : HS) : Prop where
 nx : 3 ≤ H.next
 h2 : Am.look 2 H.heap = some (2, .loop .ready none 10 (zdh ltm) [6] zve zvi (1, 1))
 h1 : Am.look 1 H.heap = some (1, .deferred)
 h0 : Am.look 0 H.heap = some (0, .cells [.bool false])
structure J115 (_ : Unit) (H : HS) : Prop where
 nx : 3 ≤ H.next
 h2 : ∃ tm, Am.look 2 H.heap = some (2, .loop .done (some .ret) 10 tm [6] zve zvi (1, 1))
 h1 : Am.look 1 H.heap = some (1, .deferred)
 h0 : Am.look 0 H.heap = some (0, .cells [.bool false])
theorem local115 (ltm : List (Nat × AV)) : Local (fun i => i < 3) (I115 ltm) :=
 ⟨fun s H h i hi => y0x hi h.nx, fun s H H' h hn hl =>
  ⟨y0t h.nx hn, (hl 2 (by decide)).trans h.h2, (hl 1 (by decide)).trans h.h1, (hl 0 (by decide)).trans h.h0⟩⟩
set_option maxHeartbeats 2000000 in
theorem yield115 {w0 : World} {N0 : Nat} (ltm : List (Nat × AV)) (b : Bool) (g1 : zbr (.t 1) ltm = some (.vptr [.bool b])) (g3 : zbr (.t 3) ltm = some (.mptr 0 0 0)) (ha : Com Try.prog zve zxa) (hb : Com Try.prog zvi zrs) (s : Unit) (r : Bool) (H : HS) (h : I115 ltm s H) :
  CT Try.prog w0 N0 (.yield 2 2) [.bool r] H (zwp (fun i => i < 3) (I115 ltm) J115 H (stepE b s r)) := by
 obtain ⟨nx, h2, h1, h0⟩ := h
 refine zic (l0 := (6, .bool r) :: ltm) h2 ha hb rfl (by decide) rfl ?_
 unfold zxa
 refine za5 rfl (za1 rfl (zai ?_))
 refine zae ⟨rfl, _, rfl, ?_⟩
 unfold zrs
 refine zad (zsr rfl (za1 rfl ?_))
 refine za6 g1 rfl ?_
 cases r <;> cases b
 all_goals repeat (first | refine za7 ?_ | refine za5 rfl ?_ | refine zai ?_ | refine za8 ?_ | refine zb9 ?_ | refine zab ?_ | refine zb2 rfl ?_ | refine zb5 rfl ?_ | refine zum rfl rfl rfl ?_ | refine zul rfl rfl rfl ?_)
 all_goals first
  | (
    refine zah (sp := 0) (cs := [.bool false]) g3 rfl rfl rfl (by rw [za0, if_neg (by decide)]; exact h0) rfl rfl ?_
    refine onu (zaf (zaa ?_))
    refine zae ⟨10, zdh ltm, [6], zve, zvi, (1, 1), ?_, some .ret, rfl, ⟨y0c _, y0c _, fun i hi hj => ?_⟩, ?_⟩
    ·dsimp only [st]
     rw [za0, if_neg (by decide), za0, if_pos rfl]
    ·dsimp only [st]
     rw [za0, if_neg (by omega), za0, if_neg (by omega), za0, if_neg (by omega)]
    ·refine ⟨rfl, nx, ⟨zdh ltm, ?_⟩, ?_, ?_⟩
     ·dsimp only [st]
      rw [za0, if_pos rfl]; rfl
     ·dsimp only [st]
      rw [za0, if_neg (by decide), za0, if_neg (by decide), za0, if_neg (by decide)]; exact h1
     ·dsimp only [st]
      rw [za0, if_neg (by decide), za0, if_pos rfl]; rfl)
  | (
    refine zae ⟨10, zdh ltm, [6], zve, zvi, (1, 1), ?_, none, rfl, ⟨y0c _, y0c _, fun i hi hj => ?_⟩, ?_⟩
    ·dsimp only [st]
     rw [za0, if_pos rfl]
    ·dsimp only [st]
     rw [za0, if_neg (by omega), za0, if_neg (by omega)]
    ·refine ⟨rfl, nx, ?_, ?_, ?_⟩
     ·dsimp only [st]
      rw [za0, if_pos rfl]; rfl
     ·dsimp only [st]
      rw [za0, if_neg (by decide), za0, if_neg (by decide)]; exact h1
     ·dsimp only [st]
      rw [za0, if_neg (by decide), za0, if_neg (by decide)]; exact h0)
set_option maxHeartbeats 2000000 in
theorem zoa (b : Bool) (v : List Bool) (op ix : Int) (args : List Ex) (hlen : args.length ≤ 256) (hev : ∀ y ∈ args, PF Try.prog 158 [.agg (cX y), vsB v] (.bool (zde v y))) :
  PF Try.prog 174 [.fn 168 [] [.vptr (cX (.nd op ix args)), .vptr [vsB v]], .vptr [.bool b]] (.bool ((args.map (zde v)).all (· == b))) := by
 refine zax env0_ok fn174 [(0, .fn 168 [] [.vptr (cX (.nd op ix args)), .vptr [vsB v]]), (1, .vptr [.bool b])] (by show 2 ≤ 10; decide) rfl fun w0 N0 => ?_
 unfold ic174
 refine zsr rfl (zay (onu (za7 (zsr rfl (za1 rfl (onu (zad ?_)))))))
 refine zi1 (.inl rfl) rfl fun ha hb => (seq110 v op ix args hlen hev (local115 _) (fun s r H h => yield115 _ b rfl rfl ha hb s r H h) ⟨_, _, _⟩ () ⟨y0c _, rfl, rfl, rfl⟩).mono fun v2 H2 hF => ?_
 obtain ⟨hK, hF⟩ := hF
 rw [foldE] at hF
 cases hall : (args.map (zde v)).all (· == b) with
 | true =>
  rw [hall, if_pos rfl] at hF
  obtain ⟨nx, h2, h1, h0⟩ := hF
  refine ⟨_, _, .normal, _, _, _, _, _, _, h2, by simp, rfl, fun z hz => ?_, ?_⟩
  ·obtain rfl := y0i.1 hz
   rw [za4, if_neg (by decide)]; exact h1
  ·refine zb9 (za8 (zsr rfl ?_))
   refine zah (sp := 0) (cs := [.bool false]) rfl rfl rfl rfl (by rw [za4, if_neg (by decide)]; exact h0) rfl rfl ?_
   refine onu (zaf ?_)
   refine zae ⟨.inr rfl, .bool true, ziz (zd8 3) (zc8 (sp := 0) (cs := [.bool true]) ?_ ?_), rfl⟩
   ·show Am.look 0 (zbo 1 (zb0 0 _ (zbo 2 H2.heap))) = _
    rw [za4, if_neg (by decide), za0, if_pos rfl]; rfl
   ·show 0 < H2.next; omega
 | false =>
  rw [hall, if_neg (by simp)] at hF
  obtain ⟨nx, ⟨tm, h2⟩, h1, h0⟩ := hF
  refine ⟨_, _, .ret, _, _, _, _, _, _, h2, by simp, rfl, fun z hz => ?_, ?_⟩
  ·obtain rfl := y0i.1 hz
   rw [za4, if_neg (by decide)]; exact h1
  ·refine zaa (za2 ?_)
   refine zae ⟨.inr rfl, .bool false, ziz (zd8 3) (zc8 (sp := 0) (cs := [.bool false]) ?_ ?_), rfl⟩
   ·show Am.look 0 (zbo 1 (zbo 2 H2.heap)) = _
    rw [za4, if_neg (by decide), za4, if_neg (by decide)]; exact h0
   ·show 0 < H2.next; omega
-- pneumatic/boolexp.shapes$1
def ic172 : IC := .seq (.region [oM 2 (.mov (.c (.bool false)))] none)
 (.seq (.region [oM 3 (.call (.c (.fn 171 [] [])) [(.c (.bool false))]),
  oT 4 0,
  oM 5 (.call (.t 3) [(.t 4)]),
  oM 6 (.un .not (.t 5)),
  oT 2 6] none)
 (.ret))
theorem fn172 : env0.fn 172 = some ⟨7, ic172, [.t 2]⟩ := by kernel_rfl
theorem some112 (v : List Bool) (op ix : Int) (args : List Ex) (hlen : args.length ≤ 256) (hev : ∀ y ∈ args, PF Try.prog 158 [.agg (cX y), vsB v] (.bool (zde v y))) :
  PF Try.prog 172 [.fn 168 [] [.vptr (cX (.nd op ix args)), .vptr [vsB v]]] (.bool (!(args.map (zde v)).all (· == false))) := by
 refine zax env0_ok fn172 [(0, .fn 168 [] [.vptr (cX (.nd op ix args)), .vptr [vsB v]])] (by show 1 ≤ 7; decide) rfl fun w0 N0 => ?_
 unfold ic172
 refine zsr rfl (za1 rfl (onr rfl ?_))
 refine zas rfl rfl every111 noC ?_
 refine za1 rfl ?_
 refine zls rfl rfl rfl (zoa false v op ix args hlen hev) noC ?_
 refine zes rfl rfl (za1 rfl (onu (zaf ?_)))
 exact zae ⟨.inr rfl, _, rfl, rfl⟩
end Go.Proofs.Ytoiblgbaeglgoaa
namespace Go.Proofs.Ytoiblgbaeglgoaa
open Go Go.Am
-- pneumatic/boolexp.eval
def ic158 : IC := .seq (.region [oM 2 (.box (.t 0)),
  oM 3 (.box (.t 1)),
  oM 4 (.mov (.c (.bool false)))] none)
 (.seq (.seq (.region [oF 5 0 2,
  oN 6 5] none)
 (.block 0 (.seq (.region [oM 8 (.bin .eql (.t 6) (.c (.int .i64 0))),
  oT 7 8] none)
 (.cond (.t 7) (.seq (.region [oF 9 1 2,
  oN 10 9,
  oM 11 (.bin .eql (.t 10) (.c (.int .i64 1))),
  oT 4 11] none)
 (.ret))
 (.seq (.region [oM 13 (.bin .eql (.t 6) (.c (.int .i64 1))),
  oT 12 13] none)
 (.cond (.t 12) (.seq (.region [oN 14 3,
  oF 15 1 2,
  oN 16 15,
  oM 17 (.idxs 1 (.t 14) (.t 16)),
  oN 18 17,
  oT 4 18] none)
 (.ret))
 (.skip)))))))
 (.seq (.region [oM 19 (.call (.c (.fn 167 [] [])) []),
  oF 20 0 2,
  oN 21 20,
  oM 22 (.idxagg 5 3 true (.t 19) (.t 21)),
  oM 23 (.field 2 none (.t 22)),
  oM 24 (.mkfn 168 [] [(.t 2), (.t 3)]),
  oM 25 (.call (.t 23) [(.t 24)]),
  oT 4 25] (some [[], [], [1], [0, 2], [3], [], [4, 5, 0], [6, 6, 0, 1, 2, 3, 4, 5, 6]]))
 (.ret)))
theorem fn158 : env0.fn 158 = some ⟨26, ic158, [.t 4]⟩ := by kernel_rfl
theorem zva (a : Bool) : ([a].all (· == false)) = !a := by cases a <;> rfl
theorem all_true (l : List Bool) : l.all (· == true) = l.all id := by
 induction l with
 | nil => rfl
 | cons a l ih => rw [y26, y26, ih]; cases a <;> rfl
theorem zx4 (l : List Bool) : (!l.all (· == false)) = l.any id := by
 induction l with
 | nil => rfl
 | cons a l ih => rw [y26, List.any_cons, ← ih]; cases a <;> simp
set_option maxHeartbeats 4000000 in
theorem eval100 (v : List Bool) : ∀ (q : Nat) (x : Ex), SizeOf.sizeOf x ≤ q → nds v.length x = 0 → PF Try.prog 158 [.agg (cX x), vsB v] (.bool (zde v x)) := by
 intro q
 induction q with
 | zero => intro x hq; cases x; simp at hq
 | succ q ih =>
 intro x hq hs
 obtain ⟨op, ix, args⟩ := x
 obtain ⟨hn, hch⟩ := nds_args hs
 obtain ⟨o0, o5, kl, km, i0, im⟩ := nodeV_ok hn
 have hlen : args.length ≤ 256 := by
  unfold zci at km
  (repeat' split at km) <;> omega
 have hev : ∀ y ∈ args, PF Try.prog 158 [.agg (cX y), vsB v] (.bool (zde v y)) := fun y hy => ih y (by have := zv4 (op := op) (ix := ix) hy; omega) (hch y hy)
 have hop : op = 0 ∨ op = 1 ∨ op = 2 ∨ op = 3 ∨ op = 4 := by omega
 have hd : zde v (.nd op ix args) = if op = 0 then ix == 1 else if op = 1 then v.getD ix.toNat false else if op = 2 then !(zjg v args).headD false else if op = 3 then (zjg v args).all id else (zjg v args).any id := by rw [zde]
 rw [hd]
 refine zax env0_ok fn158 [(0, .agg (cX (.nd op ix args))), (1, vsB v)] (by show 2 ≤ 26; decide) rfl fun w0 N0 => ?_
 unfold ic158
 rcases hop with rfl | rfl | rfl | rfl | rfl
 ·rw [if_pos rfl]
  repeat (first | refine za7 ?_ | refine za5 rfl ?_ | refine zai ?_ | refine za8 ?_ | refine zad ?_ | refine zb2 rfl ?_ | refine za1 rfl ?_ | refine za6 rfl rfl ?_ | refine za9 rfl ?_ | refine zbq rfl rfl ?_ | refine zc6 rfl rfl rfl ?_)
  refine zao rfl rfl rfl (fun h1 => ?_) fun h1 => ?_
  ·rw [h1]
   refine za1 rfl (onu (zaf (zaa (za2 ?_))))
   exact zae ⟨.inr rfl, _, rfl, rfl⟩
  ·rw [h1]
   refine za1 rfl (onu (zaf (zaa (za2 ?_))))
   exact zae ⟨.inr rfl, _, rfl, rfl⟩
 ·rw [if_neg (by decide), if_pos rfl]
  repeat (first | refine za7 ?_ | refine za5 rfl ?_ | refine zai ?_ | refine za8 ?_ | refine zad ?_ | refine zb2 rfl ?_ | refine zb5 rfl ?_ | refine za1 rfl ?_ | refine za6 rfl rfl ?_ | refine za9 rfl ?_ | refine zbq rfl rfl ?_ | refine zc6 rfl rfl rfl ?_ | refine zcc rfl rfl rfl ?_)
  have hi : ix.toNat < v.length := by
   simp [zcl] at im
   omega
  refine zba rfl rfl i0 (vs_get v _ hi) rfl ?_
  refine za6 rfl rfl (za1 rfl (onu (zaf (zaa (za2 ?_)))))
  exact zae ⟨.inr rfl, _, rfl, rfl⟩
 ·rw [if_neg (by decide), if_neg (by decide), if_pos rfl]
  have h1 : args.length = 1 := by simp [zbm, zci] at kl km; omega
  have heq : (args.map (zde v)).all (· == false) = !(zjg v args).headD false := by
   obtain ⟨y, rfl⟩ := List.length_eq_one_iff.1 h1
   rw [zjg, zjg, y1d, List.map_nil, zva]
   rfl
  repeat (first | refine za7 ?_ | refine za5 rfl ?_ | refine zai ?_ | refine za8 ?_ | refine zb9 ?_ | refine zad ?_ | refine zab ?_ | refine zb5 rfl ?_ | refine za1 rfl ?_ | refine za6 rfl rfl ?_ | refine za9 rfl ?_ | refine zbq rfl rfl ?_ | refine zcc rfl rfl rfl ?_)
  refine zfl env0_ok [(167, [], zg9), (174, [.fn 168 [] [.vptr (cX (.nd 2 ix args)), .vptr [vsB v]], .vptr [.bool false]], .bool ((args.map (zde v)).all (· == false)))] (fun x hx => by rcases y0l.1 hx with rfl | hx; exact zj2; obtain rfl := y0i.1 hx; exact zoa false v 2 ix args hlen hev) (fun f => Nat.beq f 167) rfl rfl rfl ?_
  refine zas rfl rfl zbn noC ?_
  unfold zg9
  refine za9 rfl (za6 rfl rfl (zed rfl rfl rfl rfl (zsp rfl rfl (zgw rfl rfl ?_))))
  refine zls rfl rfl rfl (zd1 (by decide) zbn) (fun _ => rfl) ?_
  refine za1 rfl (onu (zaf ?_))
  refine zae ⟨.inr rfl, _, rfl, ?_⟩
  show AV.bool _ = AV.bool _
  exact congrArg AV.bool heq
 ·rw [if_neg (by decide), if_neg (by decide), if_neg (by decide), if_pos rfl, zoj]
  have heq : (args.map (zde v)).all (· == true) = (args.map (zde v)).all id := all_true _
  repeat (first | refine za7 ?_ | refine za5 rfl ?_ | refine zai ?_ | refine za8 ?_ | refine zb9 ?_ | refine zad ?_ | refine zab ?_ | refine zb5 rfl ?_ | refine za1 rfl ?_ | refine za6 rfl rfl ?_ | refine za9 rfl ?_ | refine zbq rfl rfl ?_ | refine zcc rfl rfl rfl ?_)
  refine zfl env0_ok [(167, [], zg9), (174, [.fn 168 [] [.vptr (cX (.nd 3 ix args)), .vptr [vsB v]], .vptr [.bool true]], .bool ((args.map (zde v)).all (· == true)))] (fun x hx => by rcases y0l.1 hx with rfl | hx; exact zj2; obtain rfl := y0i.1 hx; exact zoa true v 3 ix args hlen hev) (fun f => Nat.beq f 167) rfl rfl rfl ?_
  refine zas rfl rfl zbn noC ?_
  unfold zg9
  refine za9 rfl (za6 rfl rfl (zed rfl rfl rfl rfl (zsp rfl rfl (zgw rfl rfl ?_))))
  refine zls rfl rfl rfl (zd1 (by decide) zbn) (fun _ => rfl) ?_
  refine za1 rfl (onu (zaf ?_))
  refine zae ⟨.inr rfl, _, rfl, ?_⟩
  show AV.bool _ = AV.bool _
  exact congrArg AV.bool heq
 ·rw [if_neg (by decide), if_neg (by decide), if_neg (by decide), if_neg (by decide), zoj]
  have heq : (!(args.map (zde v)).all (· == false)) = (args.map (zde v)).any id := zx4 _
  repeat (first | refine za7 ?_ | refine za5 rfl ?_ | refine zai ?_ | refine za8 ?_ | refine zb9 ?_ | refine zad ?_ | refine zab ?_ | refine zb5 rfl ?_ | refine za1 rfl ?_ | refine za6 rfl rfl ?_ | refine za9 rfl ?_ | refine zbq rfl rfl ?_ | refine zcc rfl rfl rfl ?_)
  refine zfl env0_ok [(167, [], zg9), (172, [.fn 168 [] [.vptr (cX (.nd 4 ix args)), .vptr [vsB v]]], .bool (!(args.map (zde v)).all (· == false)))] (fun x hx => by rcases y0l.1 hx with rfl | hx; exact zj2; obtain rfl := y0i.1 hx; exact some112 v 4 ix args hlen hev) (fun f => Nat.beq f 167) rfl rfl rfl ?_
  refine zas rfl rfl zbn noC ?_
  unfold zg9
  refine za9 rfl (za6 rfl rfl (zed rfl rfl rfl rfl (zsp rfl rfl (zgw rfl rfl ?_))))
  refine zls rfl rfl rfl (zd1 (by decide) zbn) (fun _ => rfl) ?_
  refine za1 rfl (onu (zaf ?_))
  refine zae ⟨.inr rfl, _, rfl, ?_⟩
  show AV.bool _ = AV.bool _
  exact congrArg AV.bool heq
-- pneumatic/boolexp.Eval
def ic131 : IC := .seq (.region [oM 2 (.box (.t 0)),
  oM 4 (.mov (.c (.bool false))),
  oM 5 (.mov (.c (.int .i64 0)))] none)
 (.seq (.seq (.region [oL 7 3 2,
  oT 8 1,
  oM 9 (.len false (.t 8)),
  oM 10 (.call (.c (.fn 128 [] [])) [(.t 7), (.t 9)]),
  oT 6 10] none)
 (.seq (.region [oT 11 6,
  oM 12 (.bin .neq (.t 11) (.c (.int .i64 0)))] none)
 (.cond (.t 12) (.seq (.region [oT 13 6,
  oM 4 (.mov (.c (.bool false))),
  oT 5 13] none)
 (.ret))
 (.skip))))
 (.seq (.region [oL 14 3 2,
  oT 15 1,
  oM 16 (.call (.c (.fn 158 [] [])) [(.t 14), (.t 15)]),
  oT 4 16,
  oM 5 (.mov (.c (.int .i64 0)))] none)
 (.ret)))
theorem fn131 : env0.fn 131 = some ⟨17, ic131, [.t 4, .t 5]⟩ := by kernel_rfl
def evalV (x : Ex) (v : List Bool) : AV := if zea x v.length = 0 then .tup [.bool (zde v x), .int .i64 0] else .tup [.bool false, .int .i64 (zea x v.length)]
theorem nds_of {x : Ex} {n : Int} (h : zea x n = 0) : nds n x = 0 := by
 unfold zea at h
 split at h
 ·exact absurd h (by decide)
 ·split at h
  ·exact h
  ·exact absurd h (by decide)
theorem eval81 (x : Ex) (hs : Slim x) (v : List Bool) : PF Try.prog 131 [.agg (cX x), vsB v] (evalV x v) := by
 have h59 := zxx x hs v.length
 rw [ztp] at h59
 have h100 : zea x v.length = 0 → PF Try.prog 158 [.agg (cX x), vsB v] (.bool (zde v x)) := fun h => eval100 v _ x (y0c _) (nds_of h)
 have hl : ((v.map fun b => ([.bool b] : List AV)).length : Int) = v.length := by rw [y07]
 obtain ⟨op, ix, args⟩ := x
 refine zax env0_ok fn131 [(0, .agg (cX (.nd op ix args))), (1, vsB v)] (by show 2 ≤ 17; decide) rfl fun w0 N0 => ?_
 unfold ic131 evalV
 refine zsr rfl (zbq rfl rfl (za1 rfl (za1 rfl (onu (za7 (zsr rfl (zal rfl rfl rfl rfl (za1 rfl (zbb rfl rfl ?_)))))))))
 refine zas rfl (by rw [show (((fun n => AV.int .i64 n) (v.map fun b => ([.bool b] : List AV)).length) : AV) = .int .i64 v.length from congrArg _ hl]; rfl) h59 noC ?_
 refine za1 rfl (onr rfl (za1 rfl ?_))
 refine zao rfl rfl rfl (fun h1 => ?_) fun h1 => ?_
 ·have h1 := bne_iff_ne.1 h1
  rw [if_neg h1]
  refine onu (zb2 rfl (zsr rfl (za1 rfl (za1 rfl (za1 rfl (onu (zaf (za2 ?_))))))))
  exact zae ⟨.inr rfl, _, rfl, rfl⟩
 ·have h1 : zea (.nd op ix args) v.length = 0 := by simpa using h1
  rw [if_pos h1]
  refine onu (zb5 rfl (zab (za8 (zsr rfl (zal rfl rfl rfl rfl (za1 rfl ?_))))))
  refine zas rfl rfl (h100 h1) noC ?_
  refine za1 rfl (za1 rfl (onu (zaf ?_)))
  exact zae ⟨.inr rfl, _, rfl, rfl⟩
end Go.Proofs.Ytoiblgbaeglgoaa
namespace Go.Proofs.Ytoiblgbaeglgoaa
open Go Go.Am
def fewB (l : List Ex) : Bool := !(decide (10 < l.length ∧ l.length ≤ 256) || decide (512 < l.length)) && l.all zfb
def zxm : IC := .seq (.seq (.region [oT 20 3,
  oF 21 0 1,
  oN 22 21,
  oM 23 (.len false (.t 22)),
  oM 24 (.bin .lss (.t 20) (.t 23))] none)
 (.cond (.t 24) (.skip)
 (.exit 0)))
 (.seq (.block 1 (.seq (.region [oF 27 0 1,
  oN 28 27,
  oT 29 3,
  oM 30 (.idxs 3 (.t 28) (.t 29)),
  oL 31 3 30,
  oM 32 (.call (.c (.fn 74 [] [])) [(.t 31)]),
  oM 33 (.un .not (.t 32))] none)
 (.cond (.t 33) (.seq (.region [oM 2 (.mov (.c (.bool false)))] none)
 (.ret))
 (.skip))))
 (.region [oT 25 3,
  oM 26 (.bin .add (.t 25) (.c (.int .i64 1))),
  oT 3 26] none))
-- pneumatic/pneumaticref49.Few
def ic15 : IC := .seq (.region [oM 1 (.box (.t 0)),
  oM 2 (.mov (.c (.bool false)))] none)
 (.seq (.seq (.region [oF 4 0 1,
  oN 5 4,
  oM 6 (.len false (.t 5)),
  oM 7 (.bin .gtr (.t 6) (.c (.int .i64 10))),
  oT 8 7,
  ⟨(some 9), .faddr 0 (.t 1), some (8, true)⟩,
  ⟨(some 10), .load none (.t 9), some (8, true)⟩,
  ⟨(some 11), .len false (.t 10), some (8, true)⟩,
  ⟨(some 12), .bin .leq (.t 11) (.c (.int .i64 256)), some (8, true)⟩,
  oM 13 (.pick (.t 8) (.t 12) (.c (.bool false))),
  oT 14 13,
  ⟨(some 15), .faddr 0 (.t 1), some (14, false)⟩,
  ⟨(some 16), .load none (.t 15), some (14, false)⟩,
  ⟨(some 17), .len false (.t 16), some (14, false)⟩,
  ⟨(some 18), .bin .gtr (.t 17) (.c (.int .i64 512)), some (14, false)⟩,
  oM 19 (.pick (.t 14) (.c (.bool true)) (.t 18))] none)
 (.cond (.t 19) (.seq (.region [oM 2 (.mov (.c (.bool false)))] none)
 (.ret))
 (.skip)))
 (.seq (.seq (.region [oM 3 (.mov (.c (.int .i64 0)))] none)
 (.block 0 (.loop zxm)))
 (.seq (.region [oM 2 (.mov (.c (.bool true)))] none)
 (.ret))))
theorem fn15 : env0.fn 15 = some ⟨34, ic15, [.t 2]⟩ := by kernel_rfl
set_option maxHeartbeats 2000000 in
theorem few11 (l : List Ex) (hlen : l.length < 9223372036854775808) (hsl : ∀ y ∈ l, Slim y) : PF Try.prog 15 [.agg [.vs (cXs l)]] (.bool (fewB l)) := by
 have hcl : (cXs l).length = l.length := zb4 l
 refine zax env0_ok fn15 [(0, .agg [.vs (cXs l)])] (by show 1 ≤ 34; decide) rfl fun w0 N0 => ?_
 unfold ic15
 have rest : ¬ ((10 < l.length ∧ l.length ≤ 256) ∨ 512 < l.length) → fewB l = l.all zfb := fun h => by
  unfold fewB
  rw [decide_eq_false (fun h1 => h (.inl h1)), decide_eq_false (fun h1 => h (.inr h1))]
  rfl
 have none_ : ((10 < l.length ∧ l.length ≤ 256) ∨ 512 < l.length) → fewB l = false := fun h => by
  unfold fewB
  rcases h with h | h
  ·rw [decide_eq_true h]; rfl
  ·rw [decide_eq_true h, Bool.or_true]; rfl
 have loop : ∀ (s1 : AS), Subm w0 N0 none s1 (st 34 [(1, .mptr 0 0 0), (3, .int .i64 ((0 : Nat) : Int))] [(0, 0, .cells [.vs (cXs l)])] 1 1) → fewB l = l.all zfb →
   Zm Try.prog w0 N0 none (.loop zxm) s1 [.blk 0, .seq (.seq (.region [oM 2 (.mov (.c (.bool true)))] none) .ret)] fun e S' => (e = .normal ∨ e = .ret) ∧ ∃ v0, S'.leave.res [.t 2] = some v0 ∧ (⟨0, .nil, S'.leave.heap, S'.leave.next, S'.leave.clk, []⟩ : AS).view VD v0 = .bool (fewB l) := fun s1 hs1 hf => by
  rw [hf]
  refine zbj (fun mm S => ∃ i, mm = l.length - i ∧ i ≤ l.length ∧ l.all zfb = (l.drop i).all zfb ∧
   S = st 34 [(1, .mptr 0 0 0), (3, .int .i64 (i : Nat))] [(0, 0, .cells [.vs (cXs l)])] 1 1) l.length hs1 ⟨0, rfl, y0q _, rfl, rfl⟩ ?_
  rintro mm S ⟨i, rfl, hi, hall, rfl⟩
  unfold zxm
  refine za7 (zsr rfl (za1 rfl (za9 rfl (za6 rfl rfl (zbb rfl rfl ?_)))))
  refine zao rfl rfl rfl (fun h3 => ?_) fun h3 => ?_
  ·have hlt : i < l.length := by
    have := of_decide_eq_true h3
    rw [zb4] at this
    omega
   have hdr : l.drop i = l[i] :: l.drop (i + 1) := y0d hlt
   rw [hdr] at hall
   have hge := zff hlt
   have hmem : l[i] ∈ l := y0r hlt
   generalize l[i] = y at hall hge hmem
   have hsy := hsl y hmem
   obtain ⟨yo, yi, ya⟩ := y
   refine onu (zb2 rfl (zab (za8 (za7 (zad (zsr rfl (za9 rfl (za6 rfl rfl (za1 rfl ?_)))))))))
   refine zba rfl rfl (y1b i) hge rfl ?_
   refine zal rfl rfl rfl rfl ?_
   have hc := zzi _ hsy
   rw [y26] at hall
   cases hb : zfb (.nd yo yi ya) with
   | true =>
    rw [hb] at hc hall
    rw [y2f] at hall
    refine zas rfl rfl hc noC ?_
    refine zes rfl rfl (onu (zb5 rfl (zab (zb9 (za8 (za5 rfl (za1 rfl (zb3 (op := .add) rfl rfl rfl (za1 rfl (zai ?_))))))))))
    rw [zar i (by omega)]
    exact zat (show l.length - (i + 1) < l.length - i by omega) (zaq (.cons rfl (.cons rfl .nil))) ⟨i + 1, rfl, hlt, hall, rfl⟩
   | false =>
    rw [hb] at hc hall
    rw [Bool.false_and] at hall
    refine zas rfl rfl hc noC ?_
    refine zes rfl rfl (onu (zb2 rfl (zsr rfl (za1 rfl (onu (zaf (zaa (za2 ?_))))))))
    refine zaw ?_
    refine zaa (za2 ?_)
    refine zae ⟨.inr rfl, _, rfl, ?_⟩
    rw [hall]
    rfl
  ·have hi2 : i = l.length := by
    have := of_decide_eq_false h3
    rw [zb4] at this
    omega
   subst hi2
   rw [y0p] at hall
   refine onu (zb5 rfl (zbi (zan ?_)))
   refine zc9 ?_
   refine zbh (za8 (zsr rfl (za1 rfl (onu (zaf ?_)))))
   refine zae ⟨.inr rfl, _, rfl, ?_⟩
   rw [hall]
   rfl
 refine zsr rfl (zbq rfl rfl (za1 rfl (onu (za7 (zsr rfl (za9 rfl (za6 rfl rfl (zbb rfl rfl ?_))))))))
 refine zao rfl rfl rfl (fun h1 => ?_) fun h1 => ?_
 ·have h1 := of_decide_eq_true h1
  refine za1 rfl (zbc rfl (za9 rfl (zbc rfl (za6 rfl rfl (zbc rfl (zbb rfl rfl (zbc rfl ?_)))))))
  refine zao rfl rfl rfl (fun h2 => ?_) fun h2 => ?_
  ·have h2 := of_decide_eq_true h2
   refine zau rfl rfl (za1 rfl (zbz rfl rfl (zbz rfl rfl (zbz rfl rfl (zbz rfl rfl (zau rfl rfl (onu (zb2 rfl (zsr rfl (za1 rfl (zai ?_)))))))))))
   refine za8 (zaf (za2 ?_))
   refine zae ⟨.inr rfl, _, rfl, ?_⟩
   rw [none_ (.inl ⟨by omega, by omega⟩)]
   rfl
  ·have h2 := of_decide_eq_false h2
   refine zau rfl rfl (za1 rfl (zbc rfl (za9 rfl (zbc rfl (za6 rfl rfl (zbc rfl (zbb rfl rfl (zbc rfl ?_))))))))
   refine zao rfl rfl rfl (fun h3 => ?_) fun h3 => ?_
   ·have h3 := of_decide_eq_true h3
    refine zap rfl rfl (onu (zb2 rfl (zsr rfl (za1 rfl (onu (zaf (za2 ?_)))))))
    refine zae ⟨.inr rfl, _, rfl, ?_⟩
    rw [none_ (.inr (by omega))]
    rfl
   ·have h3 := of_decide_eq_false h3
    refine zap rfl rfl (onu (zb5 rfl (zab (za8 (za7 (zsr rfl (za1 rfl (onu (zad ?_)))))))))
    exact loop _ (zaq (.cons rfl (.cons rfl .nil))) (rest (by omega))
 ·have h1 := of_decide_eq_false h1
  repeat (first | refine zbc rfl ?_ | refine zbz rfl rfl ?_ | refine za1 rfl ?_ | refine za6 rfl rfl ?_ | refine za9 rfl ?_ | refine zap rfl rfl ?_ | refine zbb rfl rfl ?_)
  refine zao rfl rfl rfl (fun h3 => ?_) fun h3 => ?_
  ·have h3 := of_decide_eq_true h3
   exact absurd h3 (by omega)
  ·refine zap rfl rfl (onu (zb5 rfl (zab (za8 (za7 (zsr rfl (za1 rfl (onu (zad ?_)))))))))
   exact loop _ (zaq (.cons rfl (.cons rfl .nil))) (rest (by omega))
end Go.Proofs.Ytoiblgbaeglgoaa
namespace Go.Proofs.Ytoiblgbaeglgoaa
open Go Go.Am
def chkL (m : Int) : List Ex → Int
 | [] => 0
 | y :: ys => if zea y m = 0 then chkL m ys else zea y m
def zc0 (l : List Ex) (n : Int) : Int := if n < 1 ∨ n > 6 then 2 else if l.length > 256 then 5 else chkL (2 * n) l
def body80 : IC := .seq (.region [oM 24 (.bin .lss (.t 23) (.t 22))] none)
 (.seq (.cond (.t 24) (.skip)
 (.exit 1))
 (.seq (.block 2 (.seq (.region [oM 25 (.idxs 3 (.t 21) (.t 23)),
  oL 26 3 25,
  oM 6 (.alloc [.int .i64 0, .int .i64 0, .nils]),
  ⟨none, .store 3 (.t 6) (.t 26), none⟩] none)
 (.seq (.region [oL 27 3 6,
  oT 28 1,
  oM 29 (.bin .mul (.c (.int .i64 2)) (.t 28)),
  oM 30 (.call (.c (.fn 128 [] [])) [(.t 27), (.t 29)]),
  oT 7 30] none)
 (.seq (.region [oT 31 7,
  oM 32 (.bin .neq (.t 31) (.c (.int .i64 0)))] none)
 (.cond (.t 32) (.seq (.region [oT 33 7,
  oT 4 33] none)
 (.ret))
 (.skip))))))
 (.region [oM 34 (.bin .add (.t 23) (.c (.int .i64 1))),
  oT 23 34] none)))
-- pneumatic/guard.Check
def ic80 : IC := .seq (.region [oM 2 (.box (.t 0)),
  oM 4 (.mov (.c (.int .i64 0)))] none)
 (.seq (.block 0 (.seq (.region [oT 9 1,
  oM 10 (.bin .lss (.t 9) (.c (.int .i64 1))),
  oT 11 10,
  ⟨(some 12), .mov (.t 1), some (11, false)⟩,
  ⟨(some 13), .bin .gtr (.t 12) (.c (.int .i64 6)), some (11, false)⟩,
  oM 14 (.pick (.t 11) (.c (.bool true)) (.t 13)),
  oT 8 14] none)
 (.cond (.t 8) (.seq (.region [oM 4 (.mov (.c (.int .i64 2)))] none)
 (.ret))
 (.seq (.region [oF 16 0 2,
  oN 17 16,
  oM 18 (.len false (.t 17)),
  oM 19 (.bin .gtr (.t 18) (.c (.int .i64 256))),
  oT 15 19] none)
 (.cond (.t 15) (.seq (.region [oM 4 (.mov (.c (.int .i64 5)))] none)
 (.ret))
 (.skip))))))
 (.seq (.seq (.region [oF 20 0 2,
  oN 21 20,
  oM 22 (.len false (.t 21)),
  oM 23 (.mov (.c (.int .i64 0)))] none)
 (.block 1 (.loop body80)))
 (.seq (.region [oM 4 (.mov (.c (.int .i64 0)))] none)
 (.ret))))
theorem fn80 : env0.fn 80 = some ⟨35, ic80, [.t 4]⟩ := by kernel_rfl
set_option maxHeartbeats 2000000 in
theorem zk8 (l : List Ex) (hsl : ∀ y ∈ l, Slim y) (n : Int) : PF Try.prog 80 [.agg [.vs (cXs l)], .int .i64 n] (.int .i64 (zc0 l n)) := by
 have hcl : (cXs l).length = l.length := zb4 l
 refine zax env0_ok fn80 [(0, .agg [.vs (cXs l)]), (1, .int .i64 n)] (by show 2 ≤ 35; decide) rfl fun w0 N0 => ?_
 unfold ic80 zc0
 refine zsr rfl (zbq rfl rfl (za1 rfl (onu (za7 (zad (zsr rfl (za1 rfl ?_)))))))
 refine zao rfl rfl rfl (fun h1 => ?_) fun h1 => ?_
 ·have h1 := of_decide_eq_true h1
  rw [if_pos (.inl h1)]
  refine za1 rfl (zbz rfl rfl (zbz rfl rfl (zau rfl rfl (za1 rfl (onu (zb2 rfl (zsr rfl (za1 rfl (onu (zaf ?_))))))))))
  refine zaa (za2 ?_)
  exact zae ⟨.inr rfl, _, rfl, rfl⟩
 have h1 := of_decide_eq_false h1
 refine za1 rfl (zbc rfl (za1 rfl (zbc rfl ?_)))
 refine zao rfl rfl rfl (fun h2 => ?_) fun h2 => ?_
 ·have h2 := of_decide_eq_true h2
  rw [if_pos (.inr h2)]
  refine zap rfl rfl (za1 rfl (onu (zb2 rfl (zsr rfl (za1 rfl (onu (zaf (zaa (za2 ?_)))))))))
  exact zae ⟨.inr rfl, _, rfl, rfl⟩
 have h2 := of_decide_eq_false h2
 rw [if_neg (fun h => h.elim h1 h2)]
 refine zap rfl rfl (za1 rfl (onu (zb5 rfl (zsr rfl (za9 rfl (za6 rfl rfl (zbb rfl rfl ?_)))))))
 refine zao rfl rfl rfl (fun h2 => ?_) fun h2 => ?_
 ·have h2 := of_decide_eq_true h2
  rw [if_pos (by omega)]
  refine za1 rfl (onu (zb2 rfl (zsr rfl (za1 rfl (onu (zaf (zaa (za2 ?_))))))))
  exact zae ⟨.inr rfl, _, rfl, rfl⟩
 have h2 := of_decide_eq_false h2
 rw [if_neg (by omega)]
 have hlen : l.length ≤ 256 := by omega
 refine za1 rfl (onu (zb5 rfl (zab (zb9 (za8 (za7 (zsr rfl (za9 rfl (za6 rfl rfl (zbb rfl rfl (za1 rfl ?_)))))))))))
 refine onu (zad ?_)
 refine zbj (fun mm S => ∃ i, mm = l.length - i ∧ i ≤ l.length ∧ chkL (2 * n) l = chkL (2 * n) (l.drop i) ∧
   S = st 35 [(1, .int .i64 n), (21, .vs (cXs l)), (22, .int .i64 (cXs l).length), (23, .int .i64 (i : Nat))] [] 0 1) l.length
  (zem (.cons rfl (.same rfl) (.cons rfl (.same rfl) (.cons rfl (.same rfl) (.cons rfl (.same rfl) .nil))))) ⟨0, rfl, y0q _, rfl, rfl⟩ ?_
 rintro mm S ⟨i, rfl, hi, hall, rfl⟩
 unfold body80
 refine zsr rfl ?_
 refine zao rfl rfl rfl (fun h3 => ?_) fun h3 => ?_
 ·have hlt : i < l.length := by
   have := of_decide_eq_true h3
   rw [zb4] at this
   omega
  have hdr : l.drop i = l[i] :: l.drop (i + 1) := y0d hlt
  rw [hdr] at hall
  have hge := zff hlt
  have hmem : l[i] ∈ l := y0r hlt
  generalize l[i] = y at hall hge hmem
  have hsy := hsl y hmem
  obtain ⟨yo, yi, ya⟩ := y
  rw [chkL] at hall
  refine onu (za7 (zb2 rfl (zab (za8 (za7 (zad (zsr rfl ?_)))))))
  refine zba rfl rfl (y1b i) hge rfl ?_
  refine zal rfl rfl rfl rfl (zay (zah rfl rfl rfl rfl rfl rfl rfl (onr rfl (zal rfl rfl rfl rfl (za1 rfl ?_)))))
  refine zb3 (op := .mul) rfl rfl rfl ?_
  rw [show IntKind.wrap .i64 (2 * n) = 2 * n from wrap_small _ (by omega) (by omega)]
  have hc := zxx _ hsy (2 * n)
  rw [ztp] at hc
  refine zas rfl rfl hc noC ?_
  refine za1 rfl (onr rfl (za1 rfl ?_))
  refine zao rfl rfl rfl (fun h4 => ?_) fun h4 => ?_
  ·have h4 := bne_iff_ne.1 h4
   rw [if_neg h4] at hall
   refine onu (zb2 rfl (zsr rfl (za1 rfl (za1 rfl (onu (zaf (zaa (za2 ?_))))))))
   refine zaw ?_
   refine zaa (za2 ?_)
   refine zae ⟨.inr rfl, _, rfl, ?_⟩
   rw [hall]
   rfl
  ·have h4 : zea (.nd yo yi ya) (2 * n) = 0 := by simpa using h4
   rw [if_pos h4] at hall
   refine onu (zb5 rfl (zab (zb9 (za8 (za5 rfl (zb3 (op := .add) rfl rfl rfl (za1 rfl (zai ?_))))))))
   exact zat (show l.length - (i + 1) < l.length - i by omega) (zem (.cons rfl (.same rfl) (.cons rfl (.same rfl) (.cons rfl (.same rfl) (.cons rfl (zk3 (congrArg (AV.int .i64) (zar i (by omega))) rfl) .nil))))) ⟨i + 1, rfl, hlt, hall, rfl⟩
 ·have hi2 : i = l.length := by
   have := of_decide_eq_false h3
   rw [zb4] at this
   omega
  subst hi2
  rw [y0p] at hall
  refine onu (za7 (zb5 rfl (zbi (zan ?_))))
  refine zc9 ?_
  refine zbh (za8 (zsr rfl (za1 rfl (onu (zaf ?_)))))
  refine zae ⟨.inr rfl, _, rfl, ?_⟩
  rw [hall]
  rfl
def body67 : IC := .seq (.seq (.region [oT 17 5,
  oF 18 0 2,
  oN 19 18,
  oM 20 (.len false (.t 19)),
  oM 21 (.bin .lss (.t 17) (.t 20))] none)
 (.cond (.t 21) (.skip)
 (.exit 0)))
 (.seq (.block 1 (.seq (.region [oF 24 0 2,
  oN 25 24,
  oT 26 5,
  oM 27 (.idxs 3 (.t 25) (.t 26)),
  oL 28 3 27,
  oT 29 1,
  oM 30 (.bin .mul (.c (.int .i64 2)) (.t 29)),
  oM 31 (.call (.c (.fn 116 [] [])) [(.t 28), (.t 30)]),
  oT 6 31] none)
 (.seq (.region [oT 32 6,
  oM 33 (.bin .neq (.t 32) (.c (.int .i64 0)))] none)
 (.cond (.t 33) (.seq (.region [oT 34 6,
  oT 4 34] none)
 (.ret))
 (.skip)))))
 (.region [oT 22 5,
  oM 23 (.bin .add (.t 22) (.c (.int .i64 1))),
  oT 5 23] none))
-- pneumatic/pneumaticref49.Check
def ic67 : IC := .seq (.region [oM 2 (.box (.t 0)),
  oM 4 (.mov (.c (.int .i64 0)))] none)
 (.seq (.seq (.region [oT 7 1,
  oM 8 (.bin .lss (.t 7) (.c (.int .i64 1))),
  oT 9 8,
  ⟨(some 10), .mov (.t 1), some (9, false)⟩,
  ⟨(some 11), .bin .gtr (.t 10) (.c (.int .i64 6)), some (9, false)⟩,
  oM 12 (.pick (.t 9) (.c (.bool true)) (.t 11))] none)
 (.cond (.t 12) (.seq (.region [oM 4 (.mov (.c (.int .i64 2)))] none)
 (.ret))
 (.skip)))
 (.seq (.seq (.region [oF 13 0 2,
  oN 14 13,
  oM 15 (.len false (.t 14)),
  oM 16 (.bin .gtr (.t 15) (.c (.int .i64 256)))] none)
 (.cond (.t 16) (.seq (.region [oM 4 (.mov (.c (.int .i64 5)))] none)
 (.ret))
 (.skip)))
 (.seq (.seq (.region [oM 5 (.mov (.c (.int .i64 0)))] none)
 (.block 0 (.loop body67)))
 (.seq (.region [oM 4 (.mov (.c (.int .i64 0)))] none)
 (.ret)))))
theorem fn67 : env0.fn 67 = some ⟨35, ic67, [.t 4]⟩ := by kernel_rfl
set_option maxHeartbeats 2000000 in
theorem gcheck29 (l : List Ex) (hsl : ∀ y ∈ l, Slim y) (n : Int) : PF Try.prog 67 [.agg [.vs (cXs l)], .int .i64 n] (.int .i64 (zc0 l n)) := by
 have hcl : (cXs l).length = l.length := zb4 l
 refine zax env0_ok fn67 [(0, .agg [.vs (cXs l)]), (1, .int .i64 n)] (by show 2 ≤ 35; decide) rfl fun w0 N0 => ?_
 unfold ic67 zc0
 refine zsr rfl (zbq rfl rfl (za1 rfl (onu (za7 (zsr rfl (za1 rfl ?_))))))
 refine zao rfl rfl rfl (fun h1 => ?_) fun h1 => ?_
 ·have h1 := of_decide_eq_true h1
  rw [if_pos (.inl h1)]
  refine za1 rfl (zbz rfl rfl (zbz rfl rfl (zau rfl rfl (onu (zb2 rfl (zsr rfl (za1 rfl (onu (zaf (za2 ?_))))))))))
  exact zae ⟨.inr rfl, _, rfl, rfl⟩
 have h1 := of_decide_eq_false h1
 refine za1 rfl (zbc rfl (za1 rfl (zbc rfl ?_)))
 refine zao rfl rfl rfl (fun h2 => ?_) fun h2 => ?_
 ·have h2 := of_decide_eq_true h2
  rw [if_pos (.inr h2)]
  refine zap rfl rfl (onu (zb2 rfl (zsr rfl (za1 rfl (onu (zaf (za2 ?_)))))))
  exact zae ⟨.inr rfl, _, rfl, rfl⟩
 have h2 := of_decide_eq_false h2
 rw [if_neg (fun h => h.elim h1 h2)]
 refine zap rfl rfl (onu (zb5 rfl (zab (za8 (za7 (zsr rfl (za9 rfl (za6 rfl rfl (zbb rfl rfl ?_)))))))))
 refine zao rfl rfl rfl (fun h2 => ?_) fun h2 => ?_
 ·have h2 := of_decide_eq_true h2
  rw [if_pos (by omega)]
  refine onu (zb2 rfl (zsr rfl (za1 rfl (onu (zaf (za2 ?_))))))
  exact zae ⟨.inr rfl, _, rfl, rfl⟩
 have h2 := of_decide_eq_false h2
 rw [if_neg (by omega)]
 have hlen : l.length ≤ 256 := by omega
 refine onu (zb5 rfl (zab (za8 (za7 (zsr rfl (za1 rfl (onu (zad ?_))))))))
 refine zbj (fun mm S => ∃ i, mm = l.length - i ∧ i ≤ l.length ∧ chkL (2 * n) l = chkL (2 * n) (l.drop i) ∧
   S = st 35 [(1, .int .i64 n), (2, .mptr 0 0 0), (5, .int .i64 (i : Nat))] [(0, 0, .cells [.vs (cXs l)])] 1 1) l.length
  (zaq (.cons rfl (.cons rfl (.cons rfl .nil)))) ⟨0, rfl, y0q _, rfl, rfl⟩ ?_
 rintro mm S ⟨i, rfl, hi, hall, rfl⟩
 unfold body67
 refine za7 (zsr rfl (za1 rfl (za9 rfl (za6 rfl rfl (zbb rfl rfl ?_)))))
 refine zao rfl rfl rfl (fun h3 => ?_) fun h3 => ?_
 ·have hlt : i < l.length := by
   have := of_decide_eq_true h3
   rw [zb4] at this
   omega
  have hdr : l.drop i = l[i] :: l.drop (i + 1) := y0d hlt
  rw [hdr] at hall
  have hge := zff hlt
  have hmem : l[i] ∈ l := y0r hlt
  generalize l[i] = y at hall hge hmem
  have hsy := hsl y hmem
  obtain ⟨yo, yi, ya⟩ := y
  rw [chkL] at hall
  refine onu (zb2 rfl (zab (za8 (za7 (zad (zsr rfl (za9 rfl (za6 rfl rfl (za1 rfl ?_)))))))))
  refine zba rfl rfl (y1b i) hge rfl ?_
  refine zal rfl rfl rfl rfl (za1 rfl ?_)
  refine zb3 (op := .mul) rfl rfl rfl ?_
  rw [show IntKind.wrap .i64 (2 * n) = 2 * n from wrap_small _ (by omega) (by omega)]
  refine zas rfl rfl (check60 _ hsy (2 * n)) noC ?_
  refine za1 rfl (onr rfl (za1 rfl ?_))
  refine zao rfl rfl rfl (fun h4 => ?_) fun h4 => ?_
  ·have h4 := bne_iff_ne.1 h4
   rw [if_neg h4] at hall
   refine onu (zb2 rfl (zsr rfl (za1 rfl (za1 rfl (onu (zaf (zaa (za2 ?_))))))))
   refine zaw ?_
   refine zaa (za2 ?_)
   refine zae ⟨.inr rfl, _, rfl, ?_⟩
   rw [hall]
   rfl
  ·have h4 : zea (.nd yo yi ya) (2 * n) = 0 := by simpa using h4
   rw [if_pos h4] at hall
   refine onu (zb5 rfl (zab (zb9 (za8 (za5 rfl (za1 rfl (zb3 (op := .add) rfl rfl rfl (za1 rfl (zai ?_)))))))))
   rw [zar i (by omega)]
   exact zat (show l.length - (i + 1) < l.length - i by omega) (zaq (.cons rfl (.cons rfl (.cons rfl .nil)))) ⟨i + 1, rfl, hlt, hall, rfl⟩
 ·have hi2 : i = l.length := by
   have := of_decide_eq_false h3
   rw [zb4] at this
   omega
  subst hi2
  rw [y0p] at hall
  refine onu (zb5 rfl (zbi (zan ?_)))
  refine zc9 ?_
  refine zbh (za8 (zsr rfl (za1 rfl (onu (zaf ?_)))))
  refine zae ⟨.inr rfl, _, rfl, ?_⟩
  rw [hall]
  rfl
end Go.Proofs.Ytoiblgbaeglgoaa
namespace Go.Proofs.Ytoiblgbaeglgoaa
open Go Go.Am
def vsI (l : List Int) : AV := .vs (l.map fun z => [.int .i64 z])
def sw : List Int → List Bool
 | [] => []
 | z :: zs => (z == 0) :: (z == 2) :: sw zs
theorem yas (a b : List Int) : sw (a ++ b) = sw a ++ sw b := by
 induction a with
 | nil => rfl
 | cons z zs ih => simp [sw, ih]
theorem zrc (l : List Int) : (sw l).length = 2 * l.length := by
 induction l with
 | nil => rfl
 | cons z zs ih => simp only [sw, y0m, ih]; omega
theorem zpq (l : List Int) (i : Nat) (h : i < l.length) : (l.map fun z => ([.int .i64 z] : List AV))[((i : Nat) : Int).toNat]? = some [.int .i64 l[i]] := by
 rw [y0y, y0h, y06 h]
 rfl
theorem zbl : ∀ l : List Bool, hasM.hasML (l.map AV.bool) = false
 | [] => rfl
 | b :: l => by
  have := zbl l
  simpa [hasM.hasML, hasM] using this
theorem zfw {S : AS} {d : Nat} (l : List Bool) (hl : Am.look 0 S.heap = some (0, .cells (l.map AV.bool))) : S.view (d + 2) (.ms 0 0 1 0 l.length none) = vsB l := by
 have hf : l.map AV.bool = (l.map fun b => ([.bool b] : List AV)).flatten := by
  clear hl
  induction l with
  | nil => rfl
  | cons b l ih => simp [ih]
 have := yb0 (d := d + 1) (S := S) (id := 0) (st := 0) (sz := 1) (xs := l.map fun b => ([.bool b] : List AV)) hl hf (fun x hx => by obtain ⟨b, _, rfl⟩ := y0o.1 hx; rfl)
 rw [y07] at this
 rw [this]
 unfold vsB
 congr 1
 rw [y1v]
 exact y1u fun _ _ => rfl
end Go.Proofs.Ytoiblgbaeglgoaa
namespace Go.Proofs.Ytoiblgbaeglgoaa
open Go Go.Am
def idxs (f : Ex → Bool) : Nat → List Ex → List Int
 | _, [] => []
 | i, y :: ys => if f y = true then (i : Int) :: idxs f (i + 1) ys else idxs f (i + 1) ys
theorem zaj : ∀ l : List Int, hasM.hasML (l.map (AV.int .i64)) = false
 | [] => rfl
 | b :: l => by
  have := zaj l
  simpa [hasM.hasML, hasM] using this
theorem yaz {S : AS} {d id sp : Nat} (l : List Int) (hl : Am.look id S.heap = some (sp, .cells (l.map (AV.int .i64)))) : S.view (d + 2) (.ms id sp 1 0 l.length none) = vsI l := by
 have hf : l.map (AV.int .i64) = (l.map fun b => ([.int .i64 b] : List AV)).flatten := by
  clear hl
  induction l with
  | nil => rfl
  | cons b l ih => simp [ih]
 have := yb0 (d := d + 1) (S := S) (id := id) (st := sp) (sz := 1) (xs := l.map fun b => ([.int .i64 b] : List AV)) hl hf (fun x hx => by obtain ⟨b, _, rfl⟩ := y0o.1 hx; rfl)
 rw [y07] at this
 rw [this]
 unfold vsI
 congr 1
 rw [y1v]
 exact y1u fun _ _ => rfl
end Go.Proofs.Ytoiblgbaeglgoaa
namespace Go.Proofs.Ytoiblgbaeglgoaa
open Go Go.Am
theorem zjn {a b a' b' : AV} (h : a = a') (k : b = b') : [a, b] = [a', b'] := by rw [h, k]
def zrt : IC := .seq (.region [oM 16 (.bin .lss (.t 15) (.t 14))] none)
 (.seq (.cond (.t 16) (.skip)
 (.exit 0))
 (.seq (.block 1 (.seq (.region [oM 17 (.idxs 1 (.t 13) (.t 15)),
  oN 18 17,
  oT 7 18] none)
 (.region [oT 19 5,
  oT 20 7,
  oM 21 (.bin .eql (.t 20) (.c (.int .i64 0))),
  oT 22 7,
  oM 23 (.bin .eql (.t 22) (.c (.int .i64 2))),
  oM 24 (.bslice 1 2 [.bool false, .bool false] [(0, 1, (.t 21)), (1, 1, (.t 23))]),
  oM 25 (.append 1 1 [.bool false] (.t 19) (.t 24)),
  oT 5 25] none)))
 (.region [oM 26 (.bin .add (.t 15) (.c (.int .i64 1))),
  oT 15 26] none)))
def zru : IC := .seq (.region [oM 30 (.bin .lss (.t 29) (.t 28))] none)
 (.seq (.cond (.t 30) (.skip)
 (.exit 2))
 (.seq (.block 3 (.seq (.region [oT 31 29,
  oM 32 (.idxs 3 (.t 27) (.t 29)),
  oL 33 3 32,
  oM 10 (.alloc [.int .i64 0, .int .i64 0, .nils]),
  oT 9 31,
  ⟨none, .store 3 (.t 10) (.t 33), none⟩] none)
 (.seq (.region [oL 35 3 10,
  oT 36 5,
  oM 37 (.call (.c (.fn 131 [] [])) [(.t 35), (.t 36)]),
  oT 34 37,
  oM 38 (.extract (.t 34) 0),
  oM 39 (.extract (.t 34) 1),
  oT 11 38,
  oT 12 39] none)
 (.seq (.region [oT 40 12,
  oM 41 (.bin .eql (.t 40) (.c (.int .i64 0))),
  oT 42 41,
  ⟨(some 43), .mov (.t 11), some (42, true)⟩,
  oM 44 (.pick (.t 42) (.t 43) (.c (.bool false)))] none)
 (.cond (.t 44) (.region [oT 45 8,
  oT 46 9,
  oM 47 (.bslice 1 1 [.int .i64 0] [(0, 1, (.t 46))]),
  oM 48 (.append 1 8 [.int .i64 0] (.t 45) (.t 47)),
  oT 8 48] none)
 (.skip))))))
 (.region [oM 49 (.bin .add (.t 29) (.c (.int .i64 1))),
  oT 29 49] none)))
-- pneumatic/guard.which
def ic83 : IC := .seq (.region [oM 4 (.mov (.c (.nils)))] none)
 (.seq (.region [oM 5 (.mov (.c (.nils)))] none)
 (.seq (.seq (.region [oT 13 1,
  oM 14 (.len false (.t 13)),
  oM 15 (.mov (.c (.int .i64 0)))] none)
 (.block 0 (.loop zrt)))
 (.seq (.region [oM 8 (.mov (.c (.nils)))] none)
 (.seq (.seq (.region [oT 27 0,
  oM 28 (.len false (.t 27)),
  oM 29 (.mov (.c (.int .i64 0)))] none)
 (.block 2 (.loop zru)))
 (.seq (.region [oT 50 8,
  oT 4 50] none)
 (.ret))))))
theorem fn83 : env0.fn 83 = some ⟨51, ic83, [.t 4]⟩ := by kernel_rfl
set_option maxHeartbeats 4000000 in
theorem yb3 (l : List Ex) (hl : l.length ≤ 600) (e : List Int) (he0 : 0 < e.length) (he : e.length ≤ 600) (hck : ∀ y ∈ l, zea y (sw e).length = 0) (hsl : ∀ y ∈ l, Slim y) : PF Try.prog 83 [.vs (cXs l), vsI e] (vsI (idxs (zde (sw e)) 0 l)) := by
 have hcl : (cXs l).length = l.length := zb4 l
 have hce : (e.map fun z => ([.int .i64 z] : List AV)).length = e.length := y07 ..
 refine zax env0_ok fn83 [(0, .vs (cXs l)), (1, vsI e)] (by show 2 ≤ 51; decide) rfl fun w0 N0 => ?_
 unfold ic83
 repeat (first | refine za7 ?_ | refine za5 rfl ?_ | refine zai ?_ | refine za8 ?_ | refine zad ?_ | refine za1 rfl ?_ | refine zbb rfl rfl ?_)
 refine zbj (fun mm S => ∃ i, mm = e.length - i ∧ i ≤ e.length ∧
   (
    (i = 0 ∧ S = st 51 [(0, .vs (cXs l)), (13, vsI e), (14, .int .i64 (e.map fun z => ([.int .i64 z] : List AV)).length), (5, .nils), (15, .int .i64 (i : Nat))] [] 0 1) ∨
    ∃ k cs, k = cs.length ∧ cs = (sw (e.take i)).map AV.bool ∧ S = st 51 [(0, .vs (cXs l)), (13, vsI e), (14, .int .i64 (e.map fun z => ([.int .i64 z] : List AV)).length), (5, .ms 0 0 1 0 k none), (15, .int .i64 (i : Nat))] [(0, 0, .cells cs)] 1 1)) e.length
  (zem (.cons rfl (.same rfl) (.cons rfl (.same rfl) (.cons rfl (.same rfl) (.cons rfl (.same rfl) (.cons rfl (.same rfl) .nil)))))) ⟨0, rfl, y0q _, .inl ⟨rfl, rfl⟩⟩ ?_
 rintro mm S ⟨i, rfl, hi, ⟨rfl, rfl⟩ | ⟨k, cs, hk, hcs, rfl⟩⟩
 ·unfold zrt
  refine zsr rfl ?_
  refine zao rfl rfl rfl (fun h3 => ?_) fun h3 => ?_
  ·have hge := zpq e 0 he0
   have ht : e.take (0 + 1) = [e[0]] := by
    cases e with
    | nil => simp at he0
    | cons a t => rfl
   generalize e[0] = z at hge ht
   refine onu (za7 (zb2 rfl (zab (za8 (za7 (zad (zsr rfl ?_)))))))
   refine zba rfl rfl (y1b 0) hge rfl ?_
   refine za6 rfl rfl (za1 rfl (onR rfl (za1 rfl (za1 rfl ?_))))
   refine zb3 (op := .eql) rfl rfl rfl ?_
   refine za1 rfl ?_
   refine zb3 (op := .eql) rfl rfl rfl ?_
   refine zck rfl rfl (zp1 rfl rfl rfl rfl (za1 rfl (zai (zb9 (za8 (za5 rfl (zb3 (op := .add) rfl rfl rfl (za1 rfl (zai ?_)))))))))
   exact zat (show e.length - (0 + 1) < e.length - 0 by omega) (zh1 [(1, _, [.bool (z == 0), .bool (z == 2)])] rfl rfl (by simp) (.cons rfl rfl (ze7 rfl) .nil) (.cons rfl (.same rfl) (.cons rfl (.same rfl) (.cons rfl (.same rfl) (.cons rfl (.ms rfl) (.cons rfl (.same rfl) .nil)))))) ⟨0 + 1, rfl, he0, .inr ⟨2, _, rfl, by rw [ht]; rfl, rfl⟩⟩
  ·have := of_decide_eq_false h3
   rw [hce] at this
   exact absurd he0 (by omega)
 ·unfold zrt
  refine zsr rfl ?_
  refine zao rfl rfl rfl (fun h3 => ?_) fun h3 => ?_
  ·have hlt : i < e.length := by
    have := of_decide_eq_true h3
    rw [hce] at this
    omega
   have hge := zpq e i hlt
   have ht : e.take (i + 1) = e.take i ++ [e[i]] := by rw [y25, y06 hlt]; rfl
   generalize e[i] = z at hge ht
   have hlk : cs.length ≤ 1200 := by rw [hcs, y07, zrc, y1w]; omega
   have hM : hasM.hasML cs = false := by rw [hcs]; exact zbl _
   refine onu (za7 (zb2 rfl (zab (za8 (za7 (zad (zsr rfl ?_)))))))
   refine zba rfl rfl (y1b i) hge rfl ?_
   refine za6 rfl rfl (za1 rfl (onR rfl (za1 rfl (za1 rfl ?_))))
   refine zb3 (op := .eql) rfl rfl rfl ?_
   refine za1 rfl ?_
   refine zb3 (op := .eql) rfl rfl rfl ?_
   refine zck rfl rfl ?_
   refine zbp [[.bool (z == 0)], [.bool (z == 2)]] rfl rfl rfl (fun h => Nat.noConfusion h) rfl (by decide) rfl (by rw [hk]; omega) (by rw [hk]; show cs.length + 2 ≤ _; omega) ?_
   refine za1 rfl (zai (zb9 (za8 (za5 rfl (zb3 (op := .add) rfl rfl rfl (za1 rfl (zai ?_)))))))
   exact zat (show e.length - (i + 1) < e.length - i by omega) (zh1 [(0, _, cs ++ [.bool (z == 0), .bool (z == 2)])] rfl rfl (by simp) (.cons rfl rfl (ze7 (zgs hM rfl)) .nil) (.cons rfl (.same rfl) (.cons rfl (.same rfl) (.cons rfl (.same rfl) (.cons rfl (.ms rfl) (.cons rfl (zk3 (congrArg (AV.int .i64) (zar i (by omega))) rfl) .nil)))))) ⟨i + 1, rfl, hlt, .inr ⟨k + 2, _, by rw [y0j, hk]; rfl, by rw [ht, yas, y2h, hcs]; rfl, rfl⟩⟩
  ·have hi2 : i = e.length := by
    have := of_decide_eq_false h3
    rw [hce] at this
    omega
   refine onu (za7 (zb5 rfl (zbi (zan ?_))))
   refine zc9 ?_
   repeat (first | refine za7 ?_ | refine za5 rfl ?_ | refine zai ?_ | refine za8 ?_ | refine zad ?_ | refine zbh ?_ | refine za1 rfl ?_ | refine zbb rfl rfl ?_)
   have hfin : cs = (sw e).map AV.bool := by rw [hcs, hi2, y1k]
   clear hcs
   subst hfin
   rw [y07] at hk
   subst hk
   refine zbj (fun mm S => ∃ i out, mm = l.length - i ∧ i ≤ l.length ∧ out ++ idxs (zde (sw e)) i (l.drop i) = idxs (zde (sw e)) 0 l ∧ out.length ≤ i ∧
    (
     (out = [] ∧ S = st 51 [(27, .vs (cXs l)), (28, .int .i64 (cXs l).length), (5, .ms 0 0 1 0 (sw e).length none), (8, .nils), (29, .int .i64 (i : Nat))] [(0, 0, .cells ((sw e).map AV.bool))] 1 1) ∨
     ∃ k cs, k = cs.length ∧ cs = out.map (AV.int .i64) ∧ S = st 51 [(27, .vs (cXs l)), (28, .int .i64 (cXs l).length), (5, .ms 0 0 1 0 (sw e).length none), (8, .ms 1 0 1 0 k none), (29, .int .i64 (i : Nat))] [(0, 0, .cells ((sw e).map AV.bool)), (1, 0, .cells cs)] 2 1)) l.length
    (zh1 [(0, _, (sw e).map AV.bool)] rfl rfl (by simp) (.cons rfl rfl (ze7 (zbl _)) .nil) (.cons rfl (.same rfl) (.cons rfl (.same rfl) (.cons rfl (.ms rfl) (.cons rfl (.same rfl) (.cons rfl (.same rfl) .nil)))))) ⟨0, [], rfl, y0q _, rfl, y0c _, .inl ⟨rfl, rfl⟩⟩ ?_
   clear hi2 h3 hi
   rintro mm S ⟨i, out, rfl, hi, hall, hol, ⟨rfl, rfl⟩ | ⟨k, cs, hk, hcs, rfl⟩⟩
   ·unfold zru
    refine zsr rfl ?_
    refine zao rfl rfl rfl (fun h3 => ?_) fun h3 => ?_
    ·have hlt : i < l.length := by
      have := of_decide_eq_true h3
      rw [zb4] at this
      omega
     have hdr : l.drop i = l[i] :: l.drop (i + 1) := y0d hlt
     rw [hdr] at hall
     have hge := zff hlt
     have hmem : l[i] ∈ l := y0r hlt
     generalize l[i] = y at hall hge hmem
     have h81 := eval81 y (hsl y hmem) (sw e)
     unfold evalV at h81
     rw [if_pos (hck y hmem)] at h81
     obtain ⟨yo, yi, ya⟩ := y
     refine onu (za7 (zb2 rfl (zab (za8 (za7 (zad (zsr rfl (za1 rfl ?_))))))))
     refine zba rfl rfl (y1b i) hge rfl ?_
     refine zal rfl rfl rfl rfl (zay (za1 rfl (zah rfl rfl rfl rfl rfl rfl rfl (onr rfl (zal rfl rfl rfl rfl (za1 rfl ?_))))))
     cases hf : zde (sw e) (.nd yo yi ya) with
     | true =>
      rw [hf] at h81
      refine zas rfl (zjn rfl (zfw (sw e) rfl)) h81 (fun _ => rfl) ?_
      repeat (first | refine za7 ?_ | refine za5 rfl ?_ | refine zai ?_ | refine za8 ?_ | refine zb9 ?_ | refine zb2 rfl ?_ | refine zbc rfl ?_ | refine za1 rfl ?_ | refine zau rfl rfl ?_ | refine zck rfl rfl ?_ | refine zp1 rfl rfl rfl rfl ?_ | refine zc7 rfl rfl ?_ | refine zb3 (op := .add) rfl rfl rfl ?_ | refine zc6 rfl rfl rfl ?_)
      exact zat (show l.length - (i + 1) < l.length - i by omega) (zh1 [(0, _, (sw e).map AV.bool), (3, _, [.int .i64 (i : Nat)])] rfl rfl (by simp) (.cons rfl rfl (ze7 (zbl _)) (.cons rfl rfl (ze7 rfl) .nil)) (.cons rfl (.same rfl) (.cons rfl (.same rfl) (.cons rfl (.ms rfl) (.cons rfl (.ms rfl) (.cons rfl (zk3 (congrArg (AV.int .i64) (zar i (by omega))) rfl) .nil)))))) ⟨i + 1, [(i : Int)], rfl, hlt, by rw [← hall]; simp [idxs, hf], by show 1 ≤ _; omega, .inr ⟨1, _, rfl, rfl, rfl⟩⟩
     | false =>
      rw [hf] at h81
      refine zas rfl (zjn rfl (zfw (sw e) rfl)) h81 (fun _ => rfl) ?_
      repeat (first | refine za7 ?_ | refine za5 rfl ?_ | refine zai ?_ | refine za8 ?_ | refine zb9 ?_ | refine zab ?_ | refine zb5 rfl ?_ | refine zbc rfl ?_ | refine za1 rfl ?_ | refine zau rfl rfl ?_ | refine zc7 rfl rfl ?_ | refine zb3 (op := .add) rfl rfl rfl ?_ | refine zc6 rfl rfl rfl ?_)
      exact zat (show l.length - (i + 1) < l.length - i by omega) (zh1 [(0, _, (sw e).map AV.bool)] rfl rfl (by simp) (.cons rfl rfl (ze7 (zbl _)) .nil) (.cons rfl (.same rfl) (.cons rfl (.same rfl) (.cons rfl (.ms rfl) (.cons rfl (.same rfl) (.cons rfl (zk3 (congrArg (AV.int .i64) (zar i (by omega))) rfl) .nil)))))) ⟨i + 1, [], rfl, hlt, by rw [← hall]; simp [idxs, hf], y0q _, .inl ⟨rfl, rfl⟩⟩
    ·have hi2 : i = l.length := by
      have := of_decide_eq_false h3
      rw [zb4] at this
      omega
     rw [hi2, y0p, idxs, y0u] at hall
     refine onu (za7 (zb5 rfl (zbi (zan ?_))))
     refine zc9 ?_
     refine zbh (za8 (zsr rfl (za1 rfl (za1 rfl (onu (zaf ?_))))))
     refine zae ⟨.inr rfl, _, rfl, ?_⟩
     rw [← hall]
     rfl
   ·unfold zru
    have hlk : cs.length ≤ 600 := by rw [hcs, y07]; omega
    have hM : hasM.hasML cs = false := by rw [hcs]; exact zaj _
    refine zsr rfl ?_
    refine zao rfl rfl rfl (fun h3 => ?_) fun h3 => ?_
    ·have hlt : i < l.length := by
      have := of_decide_eq_true h3
      rw [zb4] at this
      omega
     have hdr : l.drop i = l[i] :: l.drop (i + 1) := y0d hlt
     rw [hdr] at hall
     have hge := zff hlt
     have hmem : l[i] ∈ l := y0r hlt
     generalize l[i] = y at hall hge hmem
     have h81 := eval81 y (hsl y hmem) (sw e)
     unfold evalV at h81
     rw [if_pos (hck y hmem)] at h81
     obtain ⟨yo, yi, ya⟩ := y
     refine onu (za7 (zb2 rfl (zab (za8 (za7 (zad (zsr rfl (za1 rfl ?_))))))))
     refine zba rfl rfl (y1b i) hge rfl ?_
     refine zal rfl rfl rfl rfl (zay (za1 rfl (zah rfl rfl rfl rfl rfl rfl rfl (onr rfl (zal rfl rfl rfl rfl (za1 rfl ?_))))))
     cases hf : zde (sw e) (.nd yo yi ya) with
     | true =>
      rw [hf] at h81
      refine zas rfl (zjn rfl (zfw (sw e) rfl)) h81 (fun _ => rfl) ?_
      repeat (first | refine za7 ?_ | refine za5 rfl ?_ | refine zai ?_ | refine za8 ?_ | refine zb2 rfl ?_ | refine zbc rfl ?_ | refine za1 rfl ?_ | refine zau rfl rfl ?_ | refine zck rfl rfl ?_ | refine zc7 rfl rfl ?_ | refine zc6 rfl rfl rfl ?_)
      refine zbp [[.int .i64 (i : Nat)]] rfl rfl rfl (fun h => Nat.noConfusion h) rfl (by decide) rfl (by rw [hk]; omega) (by rw [hk]; show cs.length + 1 ≤ _; omega) ?_
      refine za1 rfl (zai (zb9 (za8 (za5 rfl (zb3 (op := .add) rfl rfl rfl (za1 rfl (zai ?_)))))))
      exact zat (show l.length - (i + 1) < l.length - i by omega) (zh1 [(0, _, (sw e).map AV.bool), (1, _, cs ++ [.int .i64 (i : Nat)])] rfl rfl (by simp) (.cons rfl rfl (ze7 (zbl _)) (.cons rfl rfl (ze7 (zgs hM rfl)) .nil)) (.cons rfl (.same rfl) (.cons rfl (.same rfl) (.cons rfl (.ms rfl) (.cons rfl (.ms rfl) (.cons rfl (zk3 (congrArg (AV.int .i64) (zar i (by omega))) rfl) .nil)))))) ⟨i + 1, out ++ [(i : Int)], rfl, hlt, by rw [← hall]; simp [idxs, hf], by rw [y0j]; show out.length + 1 ≤ _; omega, .inr ⟨k + 1, _, by rw [y0j, hk]; rfl, by rw [y2h, hcs]; rfl, rfl⟩⟩
     | false =>
      rw [hf] at h81
      refine zas rfl (zjn rfl (zfw (sw e) rfl)) h81 (fun _ => rfl) ?_
      repeat (first | refine za7 ?_ | refine za5 rfl ?_ | refine zai ?_ | refine za8 ?_ | refine zb9 ?_ | refine zab ?_ | refine zb5 rfl ?_ | refine zbc rfl ?_ | refine za1 rfl ?_ | refine zau rfl rfl ?_ | refine zc7 rfl rfl ?_ | refine zb3 (op := .add) rfl rfl rfl ?_ | refine zc6 rfl rfl rfl ?_)
      exact zat (show l.length - (i + 1) < l.length - i by omega) (zh1 [(0, _, (sw e).map AV.bool), (1, _, cs)] rfl rfl (by simp) (.cons rfl rfl (ze7 (zbl _)) (.cons rfl rfl (ze7 hM) .nil)) (.cons rfl (.same rfl) (.cons rfl (.same rfl) (.cons rfl (.ms rfl) (.cons rfl (.ms rfl) (.cons rfl (zk3 (congrArg (AV.int .i64) (zar i (by omega))) rfl) .nil)))))) ⟨i + 1, out, rfl, hlt, by rw [← hall]; simp [idxs, hf], by omega, .inr ⟨k, cs, hk, hcs, rfl⟩⟩
    ·have hi2 : i = l.length := by
      have := of_decide_eq_false h3
      rw [zb4] at this
      omega
     rw [hi2, y0p, idxs, y0u] at hall
     refine onu (za7 (zb5 rfl (zbi (zan ?_))))
     refine zc9 ?_
     refine zbh (za8 (zsr rfl (za1 rfl (za1 rfl (onu (zaf ?_))))))
     refine zae ⟨.inr rfl, _, rfl, ?_⟩
     rw [← hall]
     subst hcs
     rw [y07] at hk
     subst hk
     exact yaz out rfl
end Go.Proofs.Ytoiblgbaeglgoaa
namespace Go.Proofs.Ytoiblgbaeglgoaa
open Go Go.Am
def zwh : List Int → Int
 | [] => 0
 | z :: zs => if z < 0 ∨ z ≥ 4 then 1 else zwh zs
def zw2 (l : List Ex) (e : List Int) : Int := if zc0 l e.length = 0 then zwh e else zc0 l e.length
theorem ztq {m : Int} : ∀ {l : List Ex}, chkL m l = 0 → ∀ y ∈ l, zea y m = 0
 | [], _, y, hy => absurd hy y0f
 | x :: xs, h, y, hy => by
  rw [chkL] at h
  split at h
  ·rename_i h1
   rcases y0l.1 hy with he | hm
   ·rw [he]; exact h1
   ·exact ztq h y hm
  ·rename_i h1; exact absurd h h1
theorem zig {l : List Ex} {n : Int} (h : zc0 l n = 0) : 1 ≤ n ∧ n ≤ 6 ∧ l.length ≤ 256 ∧ ∀ y ∈ l, zea y (2 * n) = 0 := by
 unfold zc0 at h
 split at h
 ·exact absurd h (by decide)
 ·split at h
  ·exact absurd h (by decide)
  ·exact ⟨by omega, by omega, by omega, ztq h⟩
def zh2 (l : List Ex) (e : List Int) : List Int := idxs (zde (sw e)) 0 l
def yb4 (l : List Ex) (e : List Int) : AV := if zw2 l e = 0 then .tup [vsI (zh2 l e), .int .i64 0] else .tup [vsI [], .int .i64 (zw2 l e)]
theorem yat (e : List Int) : ((sw e).length : Int) = 2 * (e.length : Int) := by
 have := zrc e
 omega
def body28 : IC := .seq (.region [oM 19 (.bin .lss (.t 18) (.t 17))] none)
 (.seq (.cond (.t 19) (.skip)
 (.exit 0))
 (.seq (.block 1 (.seq (.region [oM 20 (.idxs 1 (.t 16) (.t 18)),
  oN 21 20,
  oT 8 21] none)
 (.seq (.region [oT 22 8,
  oM 23 (.bin .lss (.t 22) (.c (.int .i64 0))),
  oT 24 23,
  ⟨(some 25), .mov (.t 8), some (24, false)⟩,
  ⟨(some 26), .bin .geq (.t 25) (.c (.int .i64 4)), some (24, false)⟩,
  oM 27 (.pick (.t 24) (.c (.bool true)) (.t 26))] none)
 (.cond (.t 27) (.seq (.region [oM 4 (.mov (.c (.nils))),
  oM 5 (.mov (.c (.int .i64 1)))] none)
 (.ret))
 (.skip)))))
 (.region [oM 28 (.bin .add (.t 18) (.c (.int .i64 1))),
  oT 18 28] none)))
-- pneumatic/guard.Which
def ic28 : IC := .seq (.region [oM 2 (.box (.t 0)),
  oM 4 (.mov (.c (.nils))),
  oM 5 (.mov (.c (.int .i64 0)))] none)
 (.seq (.seq (.region [oL 9 1 2,
  oT 10 1,
  oM 11 (.len false (.t 10)),
  oM 12 (.call (.c (.fn 80 [] [])) [(.t 9), (.t 11)]),
  oT 6 12] none)
 (.seq (.region [oT 13 6,
  oM 14 (.bin .neq (.t 13) (.c (.int .i64 0)))] none)
 (.cond (.t 14) (.seq (.region [oT 15 6,
  oM 4 (.mov (.c (.nils))),
  oT 5 15] none)
 (.ret))
 (.skip))))
 (.seq (.seq (.region [oT 16 1,
  oM 17 (.len false (.t 16)),
  oM 18 (.mov (.c (.int .i64 0)))] none)
 (.block 0 (.loop body28)))
 (.seq (.region [oF 29 0 2,
  oN 30 29,
  oT 31 1,
  oM 32 (.call (.c (.fn 83 [] [])) [(.t 30), (.t 31)]),
  oT 4 32,
  oM 5 (.mov (.c (.int .i64 0)))] none)
 (.ret))))
theorem fn28 : env0.fn 28 = some ⟨33, ic28, [.t 4, .t 5]⟩ := by kernel_rfl
set_option maxHeartbeats 2000000 in
theorem which26 (l : List Ex) (hsl : ∀ y ∈ l, Slim y) (e : List Int) : PF Try.prog 28 [.agg [.vs (cXs l)], vsI e] (yb4 l e) := by
 have hce : (e.map fun z => ([.int .i64 z] : List AV)).length = e.length := y07 ..
 have h28 := zk8 l hsl e.length
 refine zax env0_ok fn28 [(0, .agg [.vs (cXs l)]), (1, vsI e)] (by show 2 ≤ 33; decide) rfl fun w0 N0 => ?_
 unfold ic28 yb4 zw2
 refine zsr rfl (zbq rfl rfl (za1 rfl (za1 rfl (onu (za7 (zsr rfl (zal rfl rfl rfl rfl (za1 rfl (zbb rfl rfl ?_)))))))))
 refine zas rfl (zjn rfl (congrArg (fun n : Nat => AV.int .i64 (n : Int)) hce)) h28 noC ?_
 refine za1 rfl (onr rfl (za1 rfl ?_))
 refine zao rfl rfl rfl (fun h1 => ?_) fun h1 => ?_
 ·have h1 := bne_iff_ne.1 h1
  simp only [if_neg h1]
  refine onu (zb2 rfl (zsr rfl (za1 rfl (za1 rfl (za1 rfl (onu (zaf (za2 ?_))))))))
  exact zae ⟨.inr rfl, _, rfl, rfl⟩
 have h1 : zc0 l e.length = 0 := by simpa using h1
 simp only [if_pos h1]
 obtain ⟨g1, g2, g3, g4⟩ := zig h1
 have hel : e.length ≤ 6 := by omega
 have h53 := yb3 l (by omega) e (by omega) (by omega) (fun y hy => by rw [yat]; exact g4 y hy) hsl
 refine onu (zb5 rfl (zab (za8 (za7 (zsr rfl (za1 rfl (zbb rfl rfl (za1 rfl (onu (zad ?_))))))))))
 refine zbj (fun mm S => ∃ i, mm = e.length - i ∧ i ≤ e.length ∧ zwh e = zwh (e.drop i) ∧
   S = st 33 [(1, vsI e), (2, .mptr 0 0 0), (16, vsI e), (17, .int .i64 (e.map fun z => ([.int .i64 z] : List AV)).length), (18, .int .i64 (i : Nat))] [(0, 0, .cells [.vs (cXs l)])] 1 1) e.length
  (zaq (.cons rfl (.cons rfl (.cons rfl (.cons rfl (.cons rfl .nil)))))) ⟨0, rfl, y0q _, rfl, rfl⟩ ?_
 rintro mm S ⟨i, rfl, hi, hall, rfl⟩
 unfold body28
 refine zsr rfl ?_
 refine zao rfl rfl rfl (fun h3 => ?_) fun h3 => ?_
 ·have hlt : i < e.length := by
   have := of_decide_eq_true h3
   rw [hce] at this
   omega
  have hdr : e.drop i = e[i] :: e.drop (i + 1) := y0d hlt
  rw [hdr, zwh] at hall
  have hge := zpq e i hlt
  generalize e[i] = z at hall hge
  refine onu (za7 (zb2 rfl (zab (za8 (za7 (zad (zsr rfl ?_)))))))
  refine zba rfl rfl (y1b i) hge rfl ?_
  refine za6 rfl rfl (za1 rfl (onr rfl (za1 rfl ?_)))
  refine zao rfl rfl rfl (fun h4 => ?_) fun h4 => ?_
  ·have h4 := of_decide_eq_true h4
   rw [if_pos (.inl h4)] at hall
   refine za1 rfl (zbz rfl rfl (zbz rfl rfl (zau rfl rfl (onu (zb2 rfl (zsr rfl (za1 rfl (za1 rfl (onu (zaf ?_))))))))))
   refine zaa (za2 ?_)
   refine zaw ?_
   refine zaa (za2 ?_)
   refine zae ⟨.inr rfl, _, rfl, ?_⟩
   rw [ hall]
   rfl
  have h4 := of_decide_eq_false h4
  refine za1 rfl (zbc rfl (za1 rfl (zbc rfl ?_)))
  refine zao rfl rfl rfl (fun h5 => ?_) fun h5 => ?_
  ·have h5 := of_decide_eq_true h5
   rw [if_pos (.inr h5)] at hall
   refine zap rfl rfl (onu (zb2 rfl (zsr rfl (za1 rfl (za1 rfl (onu (zaf (zaa (za2 ?_)))))))))
   refine zaw ?_
   refine zaa (za2 ?_)
   refine zae ⟨.inr rfl, _, rfl, ?_⟩
   rw [ hall]
   rfl
  have h5 := of_decide_eq_false h5
  rw [if_neg (fun h => h.elim h4 h5)] at hall
  refine zap rfl rfl (onu (zb5 rfl (zab (zb9 (za8 (za5 rfl (zb3 (op := .add) rfl rfl rfl (za1 rfl (zai ?_)))))))))
  rw [zar i (by omega)]
  exact zat (show e.length - (i + 1) < e.length - i by omega) (zaq (.cons rfl (.cons rfl (.cons rfl (.cons rfl (.cons rfl .nil)))))) ⟨i + 1, rfl, hlt, hall, rfl⟩
 ·have hi2 : i = e.length := by
   have := of_decide_eq_false h3
   rw [hce] at this
   omega
  rw [hi2, y0p, zwh] at hall
  refine onu (za7 (zb5 rfl (zbi (zan ?_))))
  refine zc9 ?_
  refine zbh (za8 (zsr rfl (za9 rfl (za6 rfl rfl (za1 rfl ?_)))))
  refine zas rfl rfl h53 noC ?_
  refine za1 rfl (za1 rfl (onu (zaf ?_)))
  refine zae ⟨.inr rfl, _, rfl, ?_⟩
  rw [hall, if_pos rfl]
  rfl
end Go.Proofs.Ytoiblgbaeglgoaa
namespace Go.Proofs.Ytoiblgbaeglgoaa
open Go Go.Am
def znw (l : List Ex) (e : List Int) : AV := if zw2 l e = 0 then .tup [.bool (zh2 l e).isEmpty, .int .i64 0] else .tup [.bool false, .int .i64 (zw2 l e)]
theorem zzh (l : List Int) : ((((l.map fun z => ([.int .i64 z] : List AV)).length : Nat) : Int) == 0) = l.isEmpty := by
 cases l with
 | nil => rfl
 | cons a t =>
  have : ¬ ((((a :: t).map fun z => ([.int .i64 z] : List AV)).length : Nat) : Int) = 0 := by
   rw [y07, y0m]; omega
  simpa using this
-- pneumatic/guard.Allowed
def ic25 : IC := .seq (.region [oM 2 (.box (.t 0)),
  oM 4 (.mov (.c (.bool false))),
  oM 5 (.mov (.c (.int .i64 0)))] none)
 (.seq (.region [oL 9 1 2,
  oT 10 1,
  oM 11 (.call (.c (.fn 28 [] [])) [(.t 9), (.t 10)]),
  oT 8 11,
  oM 12 (.extract (.t 8) 0),
  oM 13 (.extract (.t 8) 1),
  oT 6 12,
  oT 7 13] none)
 (.seq (.region [oT 14 7,
  oM 15 (.bin .eql (.t 14) (.c (.int .i64 0))),
  oT 16 15,
  ⟨(some 17), .mov (.t 6), some (16, true)⟩,
  ⟨(some 18), .len false (.t 17), some (16, true)⟩,
  ⟨(some 19), .bin .eql (.t 18) (.c (.int .i64 0)), some (16, true)⟩,
  oM 20 (.pick (.t 16) (.t 19) (.c (.bool false))),
  oT 21 7,
  oT 4 20,
  oT 5 21] none)
 (.ret)))
theorem fn25 : env0.fn 25 = some ⟨22, ic25, [.t 4, .t 5]⟩ := by kernel_rfl
set_option maxHeartbeats 2000000 in
theorem zx2 (l : List Ex) (hsl : ∀ y ∈ l, Slim y) (e : List Int) : PF Try.prog 25 [.agg [.vs (cXs l)], vsI e] (znw l e) := by
 have h26 := which26 l hsl e
 refine zax env0_ok fn25 [(0, .agg [.vs (cXs l)]), (1, vsI e)] (by show 2 ≤ 22; decide) rfl fun w0 N0 => ?_
 unfold ic25 znw
 unfold yb4 at h26
 refine zsr rfl (zbq rfl rfl (za1 rfl (za1 rfl (onr rfl (zal rfl rfl rfl rfl (za1 rfl ?_))))))
 by_cases h1 : zw2 l e = 0
 ·rw [if_pos h1] at h26
  rw [if_pos h1]
  refine zas rfl rfl h26 noC ?_
  repeat (first | refine za7 ?_ | refine za5 rfl ?_ | refine zai ?_ | refine za8 ?_ | refine zbc rfl ?_ | refine za1 rfl ?_ | refine zbb rfl rfl ?_ | refine zc7 rfl rfl ?_ | refine zc6 rfl rfl rfl ?_)
  refine zb3 (op := .eql) rfl rfl rfl ?_
  rw [zzh]
  refine zau rfl rfl (za1 rfl (za1 rfl (za1 rfl (onu (zaf ?_)))))
  exact zae ⟨.inr rfl, _, rfl, rfl⟩
 ·rw [if_neg h1] at h26
  rw [if_neg h1]
  refine zas rfl rfl h26 noC ?_
  refine za1 rfl (zc7 rfl rfl (zc7 rfl rfl (za1 rfl (za1 rfl (onr rfl (za1 rfl ?_))))))
  refine zao rfl rfl rfl (fun h2 => absurd (beq_iff_eq.1 h2) h1) fun _ => ?_
  refine za1 rfl (zbz rfl rfl (zbz rfl rfl (zbz rfl rfl (zap rfl rfl (za1 rfl (za1 rfl (za1 rfl (onu (zaf ?_)))))))))
  exact zae ⟨.inr rfl, _, rfl, rfl⟩
end Go.Proofs.Ytoiblgbaeglgoaa
namespace Go.Proofs.Ytoiblgbaeglgoaa
open Go Go.Am
-- slices.Equal[[]int,int]
end Go.Proofs.Ytoiblgbaeglgoaa
namespace Go.Proofs.Ytoiblgbaeglgoaa
open Go Go.Am Go.ChangeShapes Go.WideShapes Go.ChangeAt Go.RowKit Go.Deep
section
variable {H : Type} {enc : TypeId × Value → H} {w : World} {base : Nat} {spare : Nat → Bool} {held : Bool}
theorem rdT : Rd enc Try.prog w base spare held 51 fun d => cX (exD d) :=
 rd_tree Try.underlying51 rfl Try.underlying3 (by kernel_rfl) Try.underlying22 (by kernel_rfl) (by rw [show Try.prog.cellsOf 51 = 3 from by kernel_rfl]; decide) (by kernel_rfl)
theorem rdG : Rd enc Try.prog w base spare held 24 (zc5 [ze9 fun d => cX (exD d)]) := by
 refine ziw Try.underlying24 rfl (by kernel_rfl) fun i f g e1 e2 => ?_
 match i, e1, e2 with
 | 0, e1, e2 => injection e1 with e1; injection e2 with e2; subst e1 e2; exact zpc Try.underlying22 (by kernel_rfl) (by rw [show Try.prog.cellsOf 51 = 3 from by kernel_rfl]; decide) rdT
 | i + 1, e1, e2 => simp at e1
theorem slimG {n : Nat} {cs : List Value} {d : DataW H} {p : List MemPlace} (h : DataW.trod enc Try.prog w base spare held n 24 cs = some (d, p)) :
  (zdr ((zcm d).headD .nil)).length < 9223372036854775808 ∧ ∀ x ∈ zdr ((zcm d).headD .nil), Slim (exD x) := by
 obtain ⟨xs, n', _, hx, hlen, hxl, hall⟩ := DataW.trod_struct Try.underlying24 h
 simp only [y0a] at hx
 obtain ⟨rfl, rfl⟩ := hx
 obtain ⟨x0, rfl⟩ : ∃ a, xs = [a] := by
  match xs, hxl with
  | [a], _ => exact ⟨a, rfl⟩
 have h2 := hall 0 _ rfl
 have h2' : _ = some x0 := h2
 show (zdr x0.1).length < _ ∧ ∀ x ∈ zdr x0.1, Slim (exD x)
 rcases Deep.open_slice Try.underlying22 h2' with ⟨_, hx⟩ | ⟨a, len, cap, m, n2, D, Pl, _, hb, hle, hm, hmm, hx, hel⟩
 ·subst hx
  exact ⟨by show 0 < _; decide, fun y hy => absurd hy y0f⟩
 ·subst hx
  have hlm : len ≤ m := by rw [hmm]; split <;> omega
  refine ⟨?_, fun x hx => ?_⟩
  ·show ((List.range len).map D).length < _
   rw [y07, y1x]
   have : maxLen = 9223372036854775807 := rfl
   omega
  ·have hx' : x ∈ (List.range len).map D := hx
   obtain ⟨i, hi, rfl⟩ := y0o.1 hx'
   obtain ⟨cs', h1, h3⟩ := hel i (by have := y10.1 hi; omega)
   exact yap Try.underlying51 rfl Try.underlying22 _ (D i) (y0c _) _ _ _ h3
end
end Go.Proofs.Ytoiblgbaeglgoaa
namespace Go.Proofs.Ytoiblgbaeglgoaa
open Go Go.Am
end Go.Proofs.Ytoiblgbaeglgoaa
