/-
  R10, R11, R12, R13, R14, R15, R16, R17 in one text.; LISTS OF NUMBERS AS THE MACHINE HOLDS THEM; LISTS THAT ARE GONE THROUGH.; CONTROLS AND STATES AS THE MACHINE HOLDS THEM.; THE LINES OF A CONTROL, COUNTED AND NAMED.; THE NAMES OF LINES.; NAMES.; THE VARIABLES THAT OCCUR, AS THE REFERENCE LISTS THEM.; THE REFERENCE's CHECK: names, gates that are late.; THE REFERENCE's CHECK: signals.
-/
import Derived.Test.YtdolbghhcijonaaGreatNX2
namespace Go.Proofs.YtdolbghhcijonaaGreat
open Go Go.Am
set_option maxRecDepth 100000
mutual
def szX : Ex -> Int
 | .nd _ _ args => 1 + szL args
def szL : List Ex -> Int
 | [] => 0
 | y :: ys => szX y + szL ys
end
mutual
theorem zku : ∀ x : Ex, 1 <= szX x
 | .nd op ix args => by
  rw [szX];have := ze0 args;omega
theorem ze0 : ∀ l : List Ex, 0 <= szL l
 | [] => by rw [szL]; exact y2j _
 | y :: ys => by
  rw [szL];have := zku y;have := ze0 ys;omega
end
theorem zlv : ∀ l : List Ex, (l.length : Int) <= szL l
 | [] => by rw [szL]; exact y2j _
 | y :: ys => by
  rw [szL, y19];have := zku y;have := zlv ys;omega
mutual
theorem zx9 : ∀ x : Ex, szX x <= 256 -> Thin x
 | .nd op ix args => fun h => by
  rw [szX] at h;have := zlv args;exact .nd (by omega) (zsd args (by omega))
theorem zsd : ∀ l : List Ex, szL l <= 256 -> ∀ y ∈ l, Thin y
 | [] => fun _ y hy => absurd hy y0c
 | x :: xs => fun h y hy => by
  rw [szL] at h;have h1 := zku x;have h2 := ze0 xs;rcases y0f.1 hy with he | hm
  ·rw [he];exact zx9 x (by omega)
  ·exact zsd xs (by omega) y hm
end
mutual
theorem cnt_eq (most : Int) (h : 0 <= most) : ∀ x : Ex, cnt most x = if szX x <= most then szX x else most + 1
 | .nd op ix args => by
  rw [cnt, szX];exact zur most h 1 (by omega) (by omega) args
theorem zur (most : Int) (h : 0 <= most) (n : Int) (h1 : 1 <= n) (h2 : n <= most + 1) : ∀ l : List Ex, zpm most n l = if n + szL l <= most then n + szL l else most + 1
 | [] => by
  rw [zpm, szL];split <;> omega
 | y :: ys => by
  rw [zpm, szL];have hy := zku y;have hys := ze0 ys;split
  ·have e := cnt_eq (most - n) (by omega) y;have b := zli (most - n) (by omega) y;rw [zur most h _ (by omega) (by omega) ys];split at e <;> rw [e] <;> (repeat' split) <;> omega
  ·rw [if_neg (by omega)];omega
end
theorem zll (m : Nat) (op ix : Int) (args : List Ex) : ze4 (m + 1) (.nd op ix args) = args.all (ze4 m) := by
 rw [ze4];split
 ·rename_i h;subst h;cases args with
  | nil => rfl
  | cons a l => simp [ze4]
 ·rfl
def zd2 (x : Ex) : Bool := decide (cnt 256 x <= 256) && ze4 16 x
theorem zdp (x : Ex) : zd2 x = true ↔ szX x <= 256 /\ ze4 16 x = true := by
 unfold zd2;rw [y0g, decide_eq_true_iff, cnt_eq 256 (by omega)];constructor
 ·intro ⟨a, b⟩;refine ⟨?_, b⟩;split at a <;> omega
 ·intro ⟨a, b⟩;exact ⟨by rw [if_pos a]; exact a, b⟩
mutual
theorem walkM : ∀ (x : Ex) (d n m : Int), 1 <= d -> d <= 17 -> 0 <= n -> n <= 256 ->
  if n + szX x <= 256 /\ ze4 (17 - d).toNat x = true then ∃ m', zfm zhn d x (n, m) = .inl (n + szX x, m') else zfm zhn d x (n, m) = .inr ()
 | .nd op ix args => fun d n m hd h17 h0 hn => by
  rw [zfm, szX];unfold zhn;have hs0 := ze0 args;by_cases hs : n + 1 > 256 \/ d > 16
  ·rw [if_pos hs, if_neg];intro ⟨a, b⟩;rcases hs with hs | hs
   ·omega
   ·rw [show (17 - d).toNat = 0 by omega] at b
    simp [ze4] at b
  ·rw [if_neg hs, show (17 - d).toNat = (16 - d).toNat + 1 by omega, zll, <- Int.add_assoc]
   exact walkLM args d (n + 1) (deepM m d) hd (by omega) (by omega) (by omega)
theorem walkLM : ∀ (l : List Ex) (d n m : Int), 1 <= d -> d <= 16 -> 0 <= n -> n <= 256 ->
  if n + szL l <= 256 /\ l.all (ze4 (16 - d).toNat) = true then ∃ m', zgh zhn d l (n, m) = .inl (n + szL l, m') else zgh zhn d l (n, m) = .inr ()
 | [] => fun d n m hd h16 h0 hn => by
  rw [szL, zgh, if_pos ⟨by omega, rfl⟩, Int.add_zero];exact ⟨m, rfl⟩
 | y :: ys => fun d n m hd h16 h0 hn => by
  have hy := walkM y (d + 1) n m (by omega) (by omega) h0 hn;rw [zgh, if_pos h16, szL];rw [show (17 - (d + 1)).toNat = (16 - d).toNat by omega] at hy
  have hp := zku y;have hq := ze0 ys;by_cases hc : n + szX y <= 256 /\ ze4 (16 - d).toNat y = true
  ·rw [if_pos hc] at hy;obtain ⟨m', hy⟩ := hy;rw [hy, y1s, hc.2, y1o, <- Int.add_assoc];exact walkLM ys d (n + szX y) m' hd h16 (by omega) hc.1
  ·rw [if_neg hc] at hy;rw [hy, if_neg];intro ⟨a, b⟩;rw [y1s, y0g] at b;exact hc ⟨by omega, b.1⟩
end
mutual
theorem walkC (z : Int) : ∀ (x : Ex) (d : Int), 1 <= d -> d <= 17 -> ze4 (17 - d).toNat x = true -> zfm (zp9 z) d x () = if nds z x = 0 then .inl () else .inr (nds z x)
 | .nd op ix args => fun d hd h17 hb => by
  have h16 : d <= 16 := by
   by_cases h : d <= 16
   ·exact h
   ·rw [show (17 - d).toNat = 0 by omega] at hb
    simp [ze4] at hb
  rw [show (17 - d).toNat = (16 - d).toNat + 1 by omega, zll] at hb
  rw [zfm, nds];unfold zp9 zw9;by_cases h : zfl op ix args.length z = 0
  ·simp only [if_pos h];exact walkLC z args d hd h16 hb
  ·simp only [if_neg h]
theorem walkLC (z : Int) : ∀ (l : List Ex) (d : Int), 1 <= d -> d <= 16 -> l.all (ze4 (16 - d).toNat) = true -> zgh (zp9 z) d l () = if ztn z l = 0 then .inl () else .inr (ztn z l)
 | [] => fun d hd h16 hb => by rw [zgh, ztn, if_pos rfl]
 | y :: ys => fun d hd h16 hb => by
  rw [y1s, y0g] at hb;have hy := walkC z y (d + 1) (by omega) (by omega) (by rw [show (17 - (d + 1)).toNat = (16 - d).toNat by omega]; exact hb.1)
  rw [zgh, if_pos h16, hy, ztn];by_cases h : nds z y = 0
  ·simp only [if_pos h];exact walkLC z ys d hd h16 hb.2
  ·simp only [if_neg h]
end
def zd7 (x : Ex) (n : Int) : Int := if n < 0 \/ n > 256 then 2 else if zd2 x = true then nds n x else 5
theorem zqy (x : Ex) (n : Int) : zlg x n = zd7 x n := by
 unfold zlg zd7;split
 ·rfl
 ·have hw := walkM x 1 0 0 (by omega) (by omega) (by omega) (by omega);rw [Int.zero_add, show ((17 : Int) - 1).toNat = 16 from rfl] at hw
  by_cases hl : zd2 x = true
  ·rw [if_pos ((zdp x).1 hl)] at hw;obtain ⟨m', hw⟩ := hw;rw [hw, if_pos hl];dsimp only;rw [walkC n x 1 (by omega) (by omega) ((zdp x).1 hl).2];by_cases h : nds n x = 0
   ·rw [if_pos h]; exact h.symm
   ·rw [if_neg h]
  ·rw [if_neg (fun h => hl ((zdp x).2 h))] at hw;rw [hw, if_neg hl]
-- pneumatic/pneumaticref05.Light
def ic62 : IC := sR [oM 1 (.box (.t 0)),
  oM 2 (.mov (.c (.bool false)))]
 (sR [oL 3 3 1,
  oM 4 (.call (.c (.fn 87 [] [])) [(.t 3), (cI 256)]),
  oM 5 (.bin .leq (.t 4) (cI 256)),
  oT 6 5,
  ⟨(some 7), .load (some 3) (.t 1), some (6, true)⟩,
  ⟨(some 8), .call (.c (.fn 88 [] [])) [(.t 7), (cI 16)], some (6, true)⟩,
  oM 9 (.pick (.t 6) (.t 8) (.c (.bool false))),
  oT 2 9]
 (.ret))
theorem fn62 : env0.fn 62 = some ⟨10, ic62, [.t 2]⟩ := by kernel_rfl
theorem zq0 (x : Ex) (hs : Slim x) : PF Tryz.prog 62 [.agg (cX x)] (.bool (zd2 x)) := by
 have h72 := count72 _ x 256 (y08 _) hs (by decide) (by decide);have h73 := deep73 16 x 16 rfl (by decide) hs;have hl : zd2 x = (decide (cnt 256 x <= 256) && ze4 16 x) := rfl;rw [hl];obtain ⟨op, ix, args⟩ := x;refine za6 env0_ok fn62 [(0, .agg (cX (.nd op ix args)))] (by show 1 <= 10; decide) rfl fun w0 N0 => ?_
 unfold ic62;refine ggc1 ?_;refine zal rfl rfl h72 (fun h => Bool.noConfusion (show false = true from h)) ?_
 refine za4 rfl rfl rfl (fun h1 => ?_) fun h1 => ?_
 ·rw [h1, y1o];refine ggc2 ?_;refine zal rfl rfl h73 noC ?_;refine ggc2 ?_;exact uE
 ·rw [h1, y28];refine ggc3 ?_;exact uE
-- pneumatic/pneumaticref05.Check
def ic68 : IC := sR [oM 2 (.box (.t 0)),
  oM 4 (.mov (cI 0))]
 (.seq (sR [oT 5 1,
  oM 6 (.bin .lss (.t 5) (cI 0)),
  oT 7 6,
  ⟨(some 8), .mov (.t 1), some (7, false)⟩,
  ⟨(some 9), .bin .gtr (.t 8) (cI 256), some (7, false)⟩,
  oM 10 (.pick (.t 7) (.c (.bool true)) (.t 9))]
 (.cond (.t 10) (sR [oM 4 (.mov (cI 2))]
 (.ret))
 (.skip)))
 (.seq (sR [oL 11 3 2,
  oM 12 (.call (.c (.fn 62 [] [])) [(.t 11)]),
  oM 13 (.un .not (.t 12))]
 (.cond (.t 13) (sR [oM 4 (.mov (cI 5))]
 (.ret))
 (.skip)))
 (sR [oL 14 3 2,
  oT 15 1,
  oM 16 (.call (.c (.fn 102 [] [])) [(.t 14), (.t 15)]),
  oT 4 16]
 (.ret))))
theorem fn68 : env0.fn 68 = some ⟨17, ic68, [.t 4]⟩ := by kernel_rfl
theorem zuo (x : Ex) (hs : Slim x) (n : Int) : PF Tryz.prog 68 [.agg (cX x), .int .i64 n] (.int .i64 (zd7 x n)) := by
 have h47 := zq0 x hs;have h89 : zd2 x = true -> PF Tryz.prog 102 [.agg (cX x), .int .i64 n] (.int .i64 (nds n x)) := fun h => nodes89 n _ x (y08 _) (zx9 x ((zdp x).1 h).1);obtain ⟨op, ix, args⟩ := x;refine za6 env0_ok fn68 [(0, .agg (cX (.nd op ix args))), (1, .int .i64 n)] (by show 2 <= 17; decide) rfl fun w0 N0 => ?_
 unfold ic68 zd7;refine ggc1 ?_;refine za4 rfl rfl rfl (fun h1 => ?_) fun h1 => ?_
 ·rw [if_pos (.inl (of_decide_eq_true h1))];refine ggc3 ?_;exact uE
 refine ggc2 ?_;refine za4 rfl rfl rfl (fun h2 => ?_) fun h2 => ?_
 ·rw [if_pos (.inr (of_decide_eq_true h2))];refine ggc2 ?_;exact uE
 rw [if_neg (fun h => h.elim (of_decide_eq_false h1) (of_decide_eq_false h2))];refine ggc3 ?_;cases hl : zd2 (.nd op ix args) with
 | true =>
  rw [hl] at h47;rw [if_pos rfl];refine zal rfl rfl h47 noC ?_;refine zsw ?_;refine zal rfl rfl (h89 hl) noC ?_;refine ggc0 ?_;exact uE
 | false =>
  rw [hl] at h47;rw [if_neg (by simp)];refine zal rfl rfl h47 noC ?_;refine zsw ?_;exact uE
end Go.Proofs.YtdolbghhcijonaaGreat
namespace Go.Proofs.YtdolbghhcijonaaGreat
open Go Go.Am
mutual
def zas (v : List Bool) : Ex -> Bool
 | .nd op ix args => if op = 0 then ix == 1 else if op = 1 then v.getD ix.toNat false else if op = 2 then !(ze7 v args).headD false else if op = 3 then (ze7 v args).all id else (ze7 v args).any id
def ze7 (v : List Bool) : List Ex -> List Bool
 | [] => []
 | y :: ys => zas v y :: ze7 v ys
end
theorem zhb (v : List Bool) : ∀ l : List Ex, ze7 v l = l.map (zas v)
 | [] => by simp [ze7]
 | y :: ys => by simp [ze7, zhb v ys]
def vsB (v : List Bool) : AV := .vs (v.map fun b => [.bool b])
theorem zj5 {n op ix : Int} {args : List Ex} (h : nds n (.nd op ix args) = 0) : zfl op ix args.length n = 0 /\ ∀ y ∈ args, nds n y = 0 := by
 rw [nds] at h;split at h
 ·rename_i h1;refine ⟨h1, ?_⟩;clear h1
  induction args with
  | nil => exact fun _ hy => absurd hy y0c
  | cons y ys ih =>
   rw [ztn] at h;split at h
   ·rename_i h2;intro z hz;rcases y0f.1 hz with rfl | hm
    ·exact h2
    ·exact ih h z hm
   ·rename_i h2; exact absurd h h2
 ·rename_i h1; exact absurd h h1
theorem zj6 {op ix k n : Int} (h : zfl op ix k n = 0) : 0 <= op /\ op < 5 /\ zok op <= k /\ k <= zoq op /\ 0 <= ix /\ ix <= zt4 op n := by
 unfold zfl at h;split at h
 ·exact absurd h (by decide)
 ·split at h
  ·exact absurd h (by decide)
  ·split at h
   ·exact absurd h (by decide)
   ·omega
theorem vs_get (v : List Bool) (i : Nat) (h : i < v.length) : (v.map fun b => ([.bool b] : List AV))[i]? = some [.bool (v.getD i false)] := by
 rw [y0n, y0d h, y0j, y0d h];rfl
def zui : IC := .seq (sR [oT 32 7,
  oF 33 2 2,
  oN 34 33,
  oM 35 (.len false (.t 34)),
  oM 36 (.bin .lss (.t 32) (.t 35))]
 (.cond (.t 36) (.skip)
 (.exit 1)))
 (.seq (.block 2 (sR [oF 39 2 2,
  oN 40 39,
  oT 41 7,
  oM 42 (.idxs 3 (.t 40) (.t 41)),
  oL 43 3 42,
  oT 44 1,
  oM 45 (.call (.c (.fn 89 [] [])) [(.t 43), (.t 44)]),
  oT 8 45]
 (.region [oT 46 5,
  oT 47 46,
  ⟨(some 48), .mov (.t 8), some (47, true)⟩,
  oM 49 (.pick (.t 47) (.t 48) (.c (.bool false))),
  oT 50 6,
  oT 51 50,
  ⟨(some 52), .mov (.t 8), some (51, false)⟩,
  oM 53 (.pick (.t 51) (.c (.bool true)) (.t 52)),
  oT 5 49,
  oT 6 53] none)))
 (.region [oT 37 7,
  oM 38 (.bin .add (.t 37) (cI 1)),
  oT 7 38] none))
-- pneumatic/pneumaticref05.Holds
def ic89 : IC := sR [oM 2 (.box (.t 0)),
  oM 4 (.mov (.c (.bool false)))]
 (.seq (sR [oF 9 0 2,
  oN 10 9]
 (.block 0 (sR [oM 12 (.bin .eql (.t 10) (cI 0)),
  oT 11 12]
 (.cond (.t 11) (sR [oF 13 1 2,
  oN 14 13,
  oM 15 (.bin .eql (.t 14) (cI 1)),
  oT 4 15]
 (.ret))
 (sR [oM 17 (.bin .eql (.t 10) (cI 1)),
  oT 16 17]
 (.cond (.t 16) (sR [oT 18 1,
  oF 19 1 2,
  oN 20 19,
  oM 21 (.idxs 1 (.t 18) (.t 20)),
  oN 22 21,
  oT 4 22]
 (.ret))
 (sR [oM 24 (.bin .eql (.t 10) (cI 2)),
  oT 23 24]
 (.cond (.t 23) (sR [oF 25 2 2,
  oN 26 25,
  oM 27 (.idxs 3 (.t 26) (cI 0)),
  oL 28 3 27,
  oT 29 1,
  oM 30 (.call (.c (.fn 89 [] [])) [(.t 28), (.t 29)]),
  oM 31 (.un .not (.t 30)),
  oT 4 31]
 (.ret))
 (.skip)))))))))
 (sR [oM 5 (.mov (.c (.bool true))),
  oM 6 (.mov (.c (.bool false)))]
 (.seq (sR [oM 7 (.mov (cI 0))]
 (.block 1 (.loop zui)))
 (sR [oF 54 0 2,
  oN 55 54,
  oM 56 (.bin .eql (.t 55) (cI 3)),
  oT 57 56,
  ⟨(some 58), .mov (.t 5), some (57, true)⟩,
  oM 59 (.pick (.t 57) (.t 58) (.c (.bool false))),
  oT 60 59,
  ⟨(some 61), .faddr 0 (.t 2), some (60, false)⟩,
  ⟨(some 62), .load none (.t 61), some (60, false)⟩,
  ⟨(some 63), .bin .eql (.t 62) (cI 4), some (60, false)⟩,
  ⟨(some 64), .mov (.t 63), some (60, false)⟩,
  ⟨(some 65), .mov (.t 6), some (64, true)⟩,
  ⟨(some 66), .pick (.t 64) (.t 65) (.c (.bool false)), some (60, false)⟩,
  oM 67 (.pick (.t 60) (.c (.bool true)) (.t 66)),
  oT 4 67]
 (.ret)))))
theorem fn89 : env0.fn 89 = some ⟨68, ic89, [.t 4]⟩ := by kernel_rfl
set_option maxHeartbeats 4000000 in
theorem holds84 (v : List Bool) : ∀ (q : Nat) (x : Ex), SizeOf.sizeOf x <= q -> nds v.length x = 0 -> PF Tryz.prog 89 [.agg (cX x), vsB v] (.bool (zas v x)) := by
 intro q
 induction q with
 | zero => intro x hq; cases x; simp at hq
 | succ q ih =>
 intro x hq hs;obtain ⟨op, ix, args⟩ := x;obtain ⟨hn, hch⟩ := zj5 hs;obtain ⟨o0, o5, kl, km, i0, im⟩ := zj6 hn;have hlen : args.length <= 256 := by
  unfold zoq at km
  (repeat' split at km) <;> omega
 have hop : op = 0 \/ op = 1 \/ op = 2 \/ op = 3 \/ op = 4 := by omega
 have hd : zas v (.nd op ix args) = if op = 0 then ix == 1 else if op = 1 then v.getD ix.toNat false else if op = 2 then !(ze7 v args).headD false else if op = 3 then (ze7 v args).all id else (ze7 v args).any id := by rw [zas]
 rw [hd];refine za6 env0_ok fn89 [(0, .agg (cX (.nd op ix args))), (1, vsB v)] (by show 2 <= 68; decide) rfl fun w0 N0 => ?_
 unfold ic89;rcases hop with rfl | rfl | rfl | rfl | rfl
 ·rw [if_pos rfl];refine zsw ?_;refine za4 rfl rfl rfl (fun h1 => ?_) fun h1 => ?_
  ·rw [h1];refine zsw ?_;exact uE
  ·rw [h1];refine zsw ?_;exact uE
 ·rw [if_neg (by decide), if_pos rfl];refine zsw ?_;have hi : ix.toNat < v.length := by
   simp [zt4] at im;omega
  refine zcn rfl rfl i0 (vs_get v _ hi) rfl ?_;refine zsw ?_;exact uE
 ·rw [if_neg (by decide), if_neg (by decide), if_pos rfl];have h1 : args.length = 1 := by simp [zok, zoq] at kl km; omega
  obtain ⟨y, rfl⟩ := List.length_eq_one_iff.1 h1;obtain ⟨yo, yi, ya⟩ := y;have hhd : (ze7 v [.nd yo yi ya]).headD false = zas v (.nd yo yi ya) := by rw [ze7]; rfl
  rw [hhd];refine zsw ?_;refine zcn rfl rfl (y2j 0) (ze2 (l := [.nd yo yi ya]) (i := 0) (Nat.zero_lt_one)) rfl ?_;refine ggc1 ?_;refine zal rfl rfl (ih (.nd yo yi ya) (by have := zgm (op := 2) (ix := ix) (List.mem_singleton_self (Ex.nd yo yi ya)); omega) (hch _ (List.mem_singleton_self _))) noC ?_
  refine zsw ?_;exact uE
 ·rw [if_neg (by decide), if_neg (by decide), if_neg (by decide), if_pos rfl, zhb];refine zsw ?_;refine zav (fun mm S => ∃ i a s, mm = args.length - i /\ i <= args.length /\ (a && ((args.drop i).map (zas v)).all id) = (args.map (zas v)).all id /\ (s || ((args.drop i).map (zas v)).any id) = (args.map (zas v)).any id /\
    S = st 68 [(1, vsB v), (2, .mptr 0 0 0), (5, .bool a), (6, .bool s), (7, .int .i64 (i : Nat))] [(0, 0, .cells (cX (.nd 3 ix args)))] 1 1) args.length
   skp ⟨0, true, false, rfl, y0r _, by rw [y1o]; rfl, by rw [Bool.false_or]; rfl, rfl⟩ ?_
  rintro mm S ⟨i, a, s, rfl, hi, hal, han, rfl⟩;unfold zui;refine zsw ?_;refine za4 rfl rfl rfl (fun h3 => ?_) fun h3 => ?_
  ·have hlt : i < args.length := by
    have := of_decide_eq_true h3;rw [zai] at this;omega
   have hdr : args.drop i = args[i] :: args.drop (i + 1) := y0q hlt;rw [hdr, y1d] at hal han;rw [y1s] at hal;rw [List.any_cons] at han;have hge := ze2 hlt;have hmem : args[i] ∈ args := y0x hlt;generalize args[i] = y at hal han hge hmem;obtain ⟨yo, yi, ya⟩ := y;refine ggc3 ?_;refine zcn rfl rfl (y11 i) hge rfl ?_;refine ggc1 ?_;refine zal rfl rfl (ih (.nd yo yi ya) (by have := zgm (op := 3) (ix := ix) hmem; omega) (hch _ hmem)) noC ?_
   generalize zas v (.nd yo yi ya) = r at hal han;cases a <;> cases s
   all_goals
    refine ggc5 ?_;rw [za7 i (by omega)];exact zad (show args.length - (i + 1) < args.length - i by omega) skp ⟨i + 1, _, _, rfl, hlt, by simpa using hal, by simpa using han, rfl⟩
  ·have hi2 : i = args.length := by
    have := of_decide_eq_false h3;rw [zai] at this;omega
   subst hi2;rw [y1l] at hal han;have hal : a = (args.map (zas v)).all id := by simpa using hal
   have han : s = (args.map (zas v)).any id := by simpa using han
   rw [<- hal];clear hal han;refine ggc5 ?_;refine zbq ?_;refine ggc5 ?_;cases a <;> cases s
   all_goals
    refine ggc5 ?_;exact uE
 ·rw [if_neg (by decide), if_neg (by decide), if_neg (by decide), if_neg (by decide), zhb];refine zsw ?_;refine zav (fun mm S => ∃ i a s, mm = args.length - i /\ i <= args.length /\ (a && ((args.drop i).map (zas v)).all id) = (args.map (zas v)).all id /\ (s || ((args.drop i).map (zas v)).any id) = (args.map (zas v)).any id /\
    S = st 68 [(1, vsB v), (2, .mptr 0 0 0), (5, .bool a), (6, .bool s), (7, .int .i64 (i : Nat))] [(0, 0, .cells (cX (.nd 4 ix args)))] 1 1) args.length
   skp ⟨0, true, false, rfl, y0r _, by rw [y1o]; rfl, by rw [Bool.false_or]; rfl, rfl⟩ ?_
  rintro mm S ⟨i, a, s, rfl, hi, hal, han, rfl⟩;unfold zui;refine zsw ?_;refine za4 rfl rfl rfl (fun h3 => ?_) fun h3 => ?_
  ·have hlt : i < args.length := by
    have := of_decide_eq_true h3;rw [zai] at this;omega
   have hdr : args.drop i = args[i] :: args.drop (i + 1) := y0q hlt;rw [hdr, y1d] at hal han;rw [y1s] at hal;rw [List.any_cons] at han;have hge := ze2 hlt;have hmem : args[i] ∈ args := y0x hlt;generalize args[i] = y at hal han hge hmem;obtain ⟨yo, yi, ya⟩ := y;refine ggc3 ?_;refine zcn rfl rfl (y11 i) hge rfl ?_;refine ggc1 ?_;refine zal rfl rfl (ih (.nd yo yi ya) (by have := zgm (op := 4) (ix := ix) hmem; omega) (hch _ hmem)) noC ?_
   generalize zas v (.nd yo yi ya) = r at hal han;cases a <;> cases s
   all_goals
    refine ggc5 ?_;rw [za7 i (by omega)];exact zad (show args.length - (i + 1) < args.length - i by omega) skp ⟨i + 1, _, _, rfl, hlt, by simpa using hal, by simpa using han, rfl⟩
  ·have hi2 : i = args.length := by
    have := of_decide_eq_false h3;rw [zai] at this;omega
   subst hi2;rw [y1l] at hal han;have hal : a = (args.map (zas v)).all id := by simpa using hal
   have han : s = (args.map (zas v)).any id := by simpa using han
   rw [<- han];clear hal han;refine ggc5 ?_;refine zbq ?_;refine ggc5 ?_;cases a <;> cases s
   all_goals
    exact uE
end Go.Proofs.YtdolbghhcijonaaGreat
namespace Go.Proofs.YtdolbghhcijonaaGreat
open Go Go.Am
section
variable {σ τ : Type} {step : σ -> Bool -> σ ⊕ τ} {M : Nat -> Prop} {I : σ -> HS -> Prop} {J : τ -> HS -> Prop}
end
noncomputable def ca139 : Code := match env0.fn 139 with
 | some i => ((zcx i.ic).headD (.skip, .skip)).1
 | none => .skip
noncomputable def cb139 : Code := match env0.fn 139 with
 | some i => ((zcx i.ic).headD (.skip, .skip)).2
 | none => .skip
structure I115 (ltm : List (Nat × AV)) (_ : Unit) (H : HS) : Prop where
 nx : 3 <= H.next
 h2 : Am.look 2 H.heap = some (2, .loop .ready none 10 (zet ltm) [6] ca139 cb139 (1, 1))
 h1 : Am.look 1 H.heap = some (1, .deferred)
 h0 : Am.look 0 H.heap = some (0, .cells [.bool false])
structure J115 (_ : Unit) (H : HS) : Prop where
 nx : 3 <= H.next
 h2 : ∃ tm, Am.look 2 H.heap = some (2, .loop .done (some .ret) 10 tm [6] ca139 cb139 (1, 1))
 h1 : Am.look 1 H.heap = some (1, .deferred)
 h0 : Am.look 0 H.heap = some (0, .cells [.bool false])
end Go.Proofs.YtdolbghhcijonaaGreat
namespace Go.Proofs.YtdolbghhcijonaaGreat
open Go Go.Am
theorem zhf {x : Ex} {n : Int} (h : zd7 x n = 0) : nds n x = 0 := by
 unfold zd7 at h;split at h
 ·exact absurd h (by decide)
 ·split at h
  ·exact h
  ·exact absurd h (by decide)
end Go.Proofs.YtdolbghhcijonaaGreat
namespace Go.Proofs.YtdolbghhcijonaaGreat
open Go Go.Am
end Go.Proofs.YtdolbghhcijonaaGreat
namespace Go.Proofs.YtdolbghhcijonaaGreat
open Go Go.Am
def vsI (l : List Int) : AV := .vs (l.map fun z => [.int .i64 z])
theorem vsI_get {D : List Int} {k : Nat} (hk : k < D.length) : (D.map fun z => ([.int .i64 z] : List AV))[((k : Nat) : Int).toNat]? = some [.int .i64 D[k]] := by
 rw [y1e, y0n, y0d hk];rfl
theorem zlq : ∀ l : List Int, hasM.hasML (l.map (AV.int .i64)) = false
 | [] => rfl
 | b :: l => by
  have := zlq l;simpa [hasM.hasML, hasM] using this
theorem zv9 (l : List Int) : (l.map (AV.int .i64)) = (l.map fun z => ([.int .i64 z] : List AV)).flatten := by
 induction l with
 | nil => rfl
 | cons z l ih => simpa using ih
theorem zky {S : AS} {d id sp len : Nat} {cap : Option Nat} {J : List AV} (a : List Int) (hn : a.length = len) (hl : Am.look id S.heap = some (sp, .cells (a.map (AV.int .i64) ++ J))) : S.view (d + 1) (.ms id sp 1 0 len cap) = vsI a := by
 subst hn;have e : S.elems 1 (.ms id sp 1 0 a.length cap) = some (a.map fun z => ([.int .i64 z] : List AV)) := by
  obtain ⟨n, t, hp, nx, ck, mk⟩ := S;exact zf5 (ys := J) (cap := cap) (n := n) (nx := nx) (ck := ck) (mk := mk) (l := []) (hp := hp) (by rw [<- zv9]; exact hl) (y06 ..) (fun x hx => by obtain ⟨s, _, rfl⟩ := y0p.1 hx; rfl)
 simp only [AS.view, e];unfold vsI;congr 1;rw [y2d];apply List.map_congr_left;intro s _;cases d <;> rfl
theorem zds {S : AS} {d id sp len : Nat} {cap : Option Nat} (a : List Int) (hn : a.length = len) (hl : Am.look id S.heap = some (sp, .cells (a.map (AV.int .i64)))) : S.view (d + 1) (.ms id sp 1 0 len cap) = vsI a :=
 zky (J := []) a hn (by rw [y0s]; exact hl)
theorem Keep.mono {M M' : Nat -> Prop} {H H' : HS} (h : Keep M H H') (hm : ∀ i, M i -> M' i) : Keep M' H H' :=
 ⟨h.next, h.clk, fun i hi => h.look i fun h => hi (hm i h)⟩
theorem zwh {a b c d : AV} (h1 : a = c) (h2 : b = d) : [a, b] = [c, d] := by rw [h1, h2]
end Go.Proofs.YtdolbghhcijonaaGreat
namespace Go.Proofs.YtdolbghhcijonaaGreat
open Go Go.Am
def exO : Ex -> Int | .nd op _ _ => op
def exI : Ex -> Int | .nd _ ix _ => ix
def exA : Ex -> List Ex | .nd _ _ args => args
def c3 (x : Ex) : List AV := [.int .i64 (exO x), .int .i64 (exI x), .vs (cXs (exA x))]
theorem zhv : ∀ x : Ex, cX x = c3 x
 | .nd _ _ _ => rfl
structure Sig where
 nm : List UInt8
 kd : Int
 on : Ex
 off : Ex
 dl : Int
 ini : Bool
structure Ctl where
 act : Int
 ins : List (List UInt8)
 sg : List Sig
 pl : List Int
 mi : List Int
structure Sta where
 en : List Int
 va : List Bool
 inp : List Bool
 vals : List Bool
 tms : List Int
def c10 (s : Sig) : List AV := [.str s.nm, .int .i64 s.kd, .int .i64 (exO s.on), .int .i64 (exI s.on), .vs (cXs (exA s.on)), .int .i64 (exO s.off), .int .i64 (exI s.off), .vs (cXs (exA s.off)), .int .i64 s.dl, .bool s.ini]
def vsN (l : List (List UInt8)) : AV := .vs (l.map fun s => [.str s])
def vsG (l : List Sig) : AV := .vs (l.map c10)
def cC (c : Ctl) : List AV := [.int .i64 c.act, vsN c.ins, vsG c.sg, vsI c.pl, vsI c.mi]
def cS (s : Sta) : List AV := [vsI s.en, vsB s.va, vsB s.inp, vsB s.vals, vsI s.tms]
def dS : Sig := ⟨[], 0, .nd 0 0 [], .nd 0 0 [], 0, false⟩
def sgA (sg : List Sig) (i : Nat) : Sig := sg.getD i dS
def nA (l : List (List UInt8)) (i : Nat) : List UInt8 := l.getD i []
def zA (l : List Int) (i : Nat) : Int := l.getD i 0
def bA (l : List Bool) (i : Nat) : Bool := l.getD i false
theorem zdi {sg : List Sig} {i : Nat} (h : i < sg.length) : (sg.map c10)[((i : Nat) : Int).toNat]? = some (c10 (sgA sg i)) := by
 rw [y1e, y0n, y0d h];unfold sgA;rw [y0j, y0d h];rfl
theorem n_get {l : List (List UInt8)} {i : Nat} (h : i < l.length) : (l.map fun s => ([.str s] : List AV))[((i : Nat) : Int).toNat]? = some [.str (nA l i)] := by
 rw [y1e, y0n, y0d h];unfold nA;rw [y0j, y0d h];rfl
theorem zij {l : List Int} {i : Nat} (h : i < l.length) : (l.map fun s => ([.int .i64 s] : List AV))[((i : Nat) : Int).toNat]? = some [.int .i64 (zA l i)] := by
 rw [y1e, y0n, y0d h];unfold zA;rw [y0j, y0d h];rfl
theorem zsn {l : List Bool} {i : Nat} (h : i < l.length) : (l.map fun s => ([.bool s] : List AV))[((i : Nat) : Int).toNat]? = some [.bool (bA l i)] := by
 rw [y1e, y0n, y0d h];unfold bA;rw [y0j, y0d h];rfl
theorem zkr {sg : List Sig} {i : Nat} (h : i < sg.length) : sgA sg i ∈ sg := by
 unfold sgA;rw [y0j, y0d h];exact y0x h
theorem zel (sg : List Sig) : (sg.map c10).length = sg.length := y06 ..
theorem zor (l : List (List UInt8)) : (l.map fun s => ([.str s] : List AV)).length = l.length := y06 ..
theorem zfn (l : List Int) : (l.map fun s => ([.int .i64 s] : List AV)).length = l.length := y06 ..
theorem zjg (l : List Bool) : (l.map fun s => ([.bool s] : List AV)).length = l.length := y06 ..
structure Rd (c : Ctl) : Prop where
 i1 : c.ins.length < 9223372036854775808
 s1 : c.sg.length < 9223372036854775808
 p1 : c.pl.length < 9223372036854775808
 m1 : c.mi.length < 9223372036854775808
 n1 : ∀ i, i < c.ins.length -> (nA c.ins i).length < 9223372036854775808
 x1 : ∀ s, s ∈ c.sg -> Slim s.on /\ Slim s.off /\ s.nm.length < 9223372036854775808
theorem hL1 {P : Program} {f : FuncId} {xs : List AV} {v : AV} (h : PF P f xs v) : ∀ x ∈ [(f, xs, v)], PF P x.1 x.2.1 x.2.2 := fun x hx => by
 obtain rfl := y0o.1 hx;exact h
theorem hL2 {P : Program} {f g : FuncId} {xs bs : List AV} {v u : AV} (h : PF P f xs v) (h2 : PF P g bs u) : ∀ x ∈ [(f, xs, v), (g, bs, u)], PF P x.1 x.2.1 x.2.2 := fun x hx => by
 rcases y0f.1 hx with rfl | hx
 ·exact h
 ·exact hL1 h2 x hx
end Go.Proofs.YtdolbghhcijonaaGreat
namespace Go.Proofs.YtdolbghhcijonaaGreat
open Go Go.Am
set_option maxRecDepth 100000
def fsC (c : Ctl) : Nat := 2 * c.act.toNat + c.ins.length
def lnC (c : Ctl) : Nat := fsC c + c.sg.length
structure Sm (c : Ctl) : Prop where
 a0 : 0 <= c.act
 a6 : c.act <= 6
 i : c.ins.length <= 32
 s : c.sg.length <= 128
theorem zh7 {c : Ctl} (h : Sm c) : IntKind.wrap .i64 (IntKind.wrap .i64 (2 * c.act) + (c.ins.length : Nat)) = ((fsC c : Nat) : Int) := by
 obtain ⟨a0, a6, i, s⟩ := h;unfold fsC;rw [zbb (2 * c.act) (by omega) (by omega), zbb _ (by omega) (by omega)];omega
-- pneumatic/pneumaticref27.Signals
def ic11 : IC := sR [oM 1 (.box (.t 0)),
  oM 2 (.mov (cI 0))]
 (sR [oF 3 0 1,
  oN 4 3,
  oM 5 (.bin .mul (cI 2) (.t 4)),
  oF 6 1 1,
  oN 7 6,
  oM 8 (.len false (.t 7)),
  oM 9 (.bin .add (.t 5) (.t 8)),
  oT 2 9]
 (.ret))
theorem fn11 : env0.fn 11 = some ⟨10, ic11, [.t 2]⟩ := by kernel_rfl
theorem zhm {c : Ctl} (h : Sm c) : PF Tryz.prog 11 [.agg (cC c)] (.int .i64 (fsC c : Nat)) := by
 have e := zh7 h;have hl := zor c.ins;refine za6 env0_ok fn11 [(0, .agg (cC c))] (by show 1 <= 10; decide) rfl fun w0 N0 => ?_
 unfold ic11 cC vsN;refine ggd1 ?_;rw [hl, e];exact uE
-- pneumatic/control.first
def ic47 : IC := sR [oM 1 (.box (.t 0)),
  oM 2 (.mov (cI 0))]
 (sR [oF 3 0 1,
  oN 4 3,
  oM 5 (.bin .mul (cI 2) (.t 4)),
  oF 6 1 1,
  oN 7 6,
  oM 8 (.len false (.t 7)),
  oM 9 (.bin .add (.t 5) (.t 8)),
  oT 2 9]
 (.ret))
theorem fn47 : env0.fn 47 = some ⟨10, ic47, [.t 2]⟩ := by kernel_rfl
theorem zjv {c : Ctl} (h : Sm c) : PF Tryz.prog 47 [.agg (cC c)] (.int .i64 (fsC c : Nat)) := by
 have e := zh7 h;have hl := zor c.ins;refine za6 env0_ok fn47 [(0, .agg (cC c))] (by show 1 <= 10; decide) rfl fun w0 N0 => ?_
 unfold ic47 cC vsN;refine ggd1 ?_;rw [hl, e];exact uE
-- pneumatic/pneumaticref27.Lines
def ic69 : IC := sR [oM 1 (.box (.t 0)),
  oM 2 (.mov (cI 0))]
 (sR [oF 3 0 1,
  oN 4 3,
  oM 5 (.bin .mul (cI 2) (.t 4)),
  oF 6 1 1,
  oN 7 6,
  oM 8 (.len false (.t 7)),
  oM 9 (.bin .add (.t 5) (.t 8)),
  oF 10 2 1,
  oN 11 10,
  oM 12 (.len false (.t 11)),
  oM 13 (.bin .add (.t 9) (.t 12)),
  oT 2 13]
 (.ret))
theorem fn69 : env0.fn 69 = some ⟨14, ic69, [.t 2]⟩ := by kernel_rfl
theorem zvy {c : Ctl} (h : Sm c) : PF Tryz.prog 69 [.agg (cC c)] (.int .i64 (lnC c : Nat)) := by
 have e := zh7 h;have hl := zor c.ins;have hg := zel c.sg;refine za6 env0_ok fn69 [(0, .agg (cC c))] (by show 1 <= 14; decide) rfl fun w0 N0 => ?_
 unfold ic69 cC vsN vsG;refine ggd1 ?_;rw [hl, e, hg];obtain ⟨a0, a6, i, s⟩ := h;refine zaa ⟨.inr rfl, _, rfl, ?_⟩;rw [zbb _ (by unfold fsC; omega) (by unfold fsC; omega)];rfl
-- pneumatic/control.count
def ic46 : IC := sR [oM 1 (.box (.t 0)),
  oM 2 (.mov (cI 0))]
 (.seq (.region [oL 3 5 1,
  oM 4 (.call (.c (.fn 47 [] [])) [(.t 3)]),
  oF 5 2 1,
  oN 6 5,
  oM 7 (.len false (.t 6)),
  oM 8 (.bin .add (.t 4) (.t 7)),
  oT 2 8] (some [[], [0], [], [2], [3], [1, 4], [5, 1, 0, 1, 2, 3, 4, 5]]))
 (.ret))
theorem fn46 : env0.fn 46 = some ⟨9, ic46, [.t 2]⟩ := by kernel_rfl
theorem zmo {c : Ctl} (h : Sm c) : PF Tryz.prog 46 [.agg (cC c)] (.int .i64 (lnC c : Nat)) := by
 have p := zjv h;have hg := zel c.sg;refine za6 env0_ok fn46 [(0, .agg (cC c))] (by show 1 <= 9; decide) rfl fun w0 N0 => ?_
 unfold ic46 cC at *;unfold vsG at *;refine ggd1 ?_;refine zc2 env0_ok _ (hL1 p) (fun f => Nat.beq f 47) rfl rfl rfl ?_;refine ggd2 ?_;rw [hg];obtain ⟨a0, a6, i, s⟩ := h;refine zaa ⟨.inr rfl, _, rfl, ?_⟩;rw [zbb _ (by unfold fsC; omega) (by unfold fsC; omega)];rfl
def zxp (x : Ex) : Bool := decide (exO x = 0) && (decide (exI x = 0) && decide ((exA x).length = 0))
-- pneumatic/pneumaticref27.zero
def ic71 : IC := sR [oM 1 (.box (.t 0)),
  oM 2 (.mov (.c (.bool false)))]
 (sR [oF 3 0 1,
  oN 4 3,
  oM 5 (.bin .eql (.t 4) (cI 0)),
  oT 6 5,
  ⟨(some 7), .faddr 1 (.t 1), some (6, true)⟩,
  ⟨(some 8), .load none (.t 7), some (6, true)⟩,
  ⟨(some 9), .bin .eql (.t 8) (cI 0), some (6, true)⟩,
  oM 10 (.pick (.t 6) (.t 9) (.c (.bool false))),
  oT 11 10,
  ⟨(some 12), .faddr 2 (.t 1), some (11, true)⟩,
  ⟨(some 13), .load none (.t 12), some (11, true)⟩,
  ⟨(some 14), .len false (.t 13), some (11, true)⟩,
  ⟨(some 15), .bin .eql (.t 14) (cI 0), some (11, true)⟩,
  oM 16 (.pick (.t 11) (.t 15) (.c (.bool false))),
  oT 2 16]
 (.ret))
theorem fn71 : env0.fn 71 = some ⟨17, ic71, [.t 2]⟩ := by kernel_rfl
theorem zero71 (x : Ex) : PF Tryz.prog 71 [.agg (c3 x)] (.bool (zxp x)) := by
 have hl : (cXs (exA x)).length = (exA x).length := zai _;refine za6 env0_ok fn71 [(0, .agg (c3 x))] (by show 1 <= 17; decide) rfl fun w0 N0 => ?_
 unfold ic71 c3;repeat' first | refine zb5 ?_ | refine za8 rfl ?_ | refine zay ?_ | refine zau ?_ | refine zby ?_ | refine zgy rfl ?_ | refine znu rfl rfl ?_ | refine zan rfl ?_ | refine zb0 rfl rfl ?_ | refine zae rfl ?_ | refine zbz rfl rfl ?_ | refine zb8 rfl rfl ?_ | refine zdb rfl rfl ?_ | refine zd6 rfl rfl ?_ | refine za4 rfl rfl rfl (fun h => ?_) fun h => ?_
 all_goals
  refine zaa ⟨.inr rfl, _, rfl, ?_⟩;show AV.bool _ = AV.bool _;refine congrArg AV.bool ?_;rw [hl] at *
  simp_all [zxp]
-- pneumatic/control.zero
def ic128 : IC := sR [oM 1 (.box (.t 0)),
  oM 2 (.mov (.c (.bool false)))]
 (sR [oF 3 0 1,
  oN 4 3,
  oM 5 (.bin .eql (.t 4) (cI 0)),
  oT 6 5,
  ⟨(some 7), .faddr 1 (.t 1), some (6, true)⟩,
  ⟨(some 8), .load none (.t 7), some (6, true)⟩,
  ⟨(some 9), .bin .eql (.t 8) (cI 0), some (6, true)⟩,
  oM 10 (.pick (.t 6) (.t 9) (.c (.bool false))),
  oT 11 10,
  ⟨(some 12), .faddr 2 (.t 1), some (11, true)⟩,
  ⟨(some 13), .load none (.t 12), some (11, true)⟩,
  ⟨(some 14), .len false (.t 13), some (11, true)⟩,
  ⟨(some 15), .bin .eql (.t 14) (cI 0), some (11, true)⟩,
  oM 16 (.pick (.t 11) (.t 15) (.c (.bool false))),
  oT 2 16]
 (.ret))
theorem fn128 : env0.fn 128 = some ⟨17, ic128, [.t 2]⟩ := by kernel_rfl
theorem zxm (x : Ex) : PF Tryz.prog 128 [.agg (c3 x)] (.bool (zxp x)) := by
 have hl : (cXs (exA x)).length = (exA x).length := zai _;refine za6 env0_ok fn128 [(0, .agg (c3 x))] (by show 1 <= 17; decide) rfl fun w0 N0 => ?_
 unfold ic128 c3;repeat' first | refine zb5 ?_ | refine za8 rfl ?_ | refine zay ?_ | refine zau ?_ | refine zby ?_ | refine zgy rfl ?_ | refine znu rfl rfl ?_ | refine zan rfl ?_ | refine zb0 rfl rfl ?_ | refine zae rfl ?_ | refine zbz rfl rfl ?_ | refine zb8 rfl rfl ?_ | refine zdb rfl rfl ?_ | refine zd6 rfl rfl ?_ | refine za4 rfl rfl rfl (fun h => ?_) fun h => ?_
 all_goals
  refine zaa ⟨.inr rfl, _, rfl, ?_⟩;show AV.bool _ = AV.bool _;refine congrArg AV.bool ?_;rw [hl] at *
  simp_all [zxp]
end Go.Proofs.YtdolbghhcijonaaGreat
namespace Go.Proofs.YtdolbghhcijonaaGreat
open Go Go.Am
set_option maxRecDepth 100000
def lnT (k : Nat) : List UInt8 := [UInt8.ofNat (97 + k / 2), UInt8.ofNat (48 + k % 2)]
def nmd (c : Ctl) (k : Nat) : List UInt8 := if k < 2 * c.act.toNat then lnT k else if k < fsC c then nA c.ins (k - 2 * c.act.toNat) else (sgA c.sg (k - fsC c)).nm
-- pneumatic/pneumaticref27.Named
def ic66 : IC := sR [oM 2 (.box (.t 0)),
  oM 4 (.mov (.c (.str [])))]
 (.seq (sR [oT 5 1,
  oF 6 0 2,
  oN 7 6,
  oM 8 (.bin .mul (cI 2) (.t 7)),
  oM 9 (.bin .lss (.t 5) (.t 8))]
 (.cond (.t 9) (.seq (.region [oT 10 1,
  oM 11 (.bin .quo (.t 10) (cI 2)),
  oT 12 1,
  oM 13 (.bin .quo (.t 12) (cI 2)),
  oM 14 (.bin .add (.t 13) (cI 1)),
  oM 15 (.slstr (.c (.str [97, 98, 99, 100, 101, 102])) (some (.t 11)) (some (.t 14))),
  oT 16 1,
  oM 17 (.bin .rem (.t 16) (cI 2)),
  oT 18 1,
  oM 19 (.bin .rem (.t 18) (cI 2)),
  oM 20 (.bin .add (.t 19) (cI 1)),
  oM 21 (.slstr (.c (.str [48, 49])) (some (.t 17)) (some (.t 20))),
  oM 22 (.bin .add (.t 15) (.t 21)),
  oT 4 22] (some [[], [0], [], [2], [3], [1, 4], [], [6], [], [8], [9], [7, 10], [5, 11], [12, 0, 1, 2, 3, 4, 5, 6, 7, 8, 9, 10, 11, 12]]))
 (.ret))
 (.skip)))
 (.seq (sR [oT 23 1,
  oL 24 5 2,
  oM 25 (.call (.c (.fn 11 [] [])) [(.t 24)]),
  oM 26 (.bin .lss (.t 23) (.t 25))]
 (.cond (.t 26) (sR [oF 27 1 2,
  oN 28 27,
  oT 29 1,
  oF 30 0 2,
  oN 31 30,
  oM 32 (.bin .mul (cI 2) (.t 31)),
  oM 33 (.bin .sub (.t 29) (.t 32)),
  oM 34 (.idxs 1 (.t 28) (.t 33)),
  oN 35 34,
  oT 4 35]
 (.ret))
 (.skip)))
 (.seq (.region [oF 36 2 2,
  oN 37 36,
  oT 38 1,
  oL 39 5 2,
  oM 40 (.call (.c (.fn 11 [] [])) [(.t 39)]),
  oM 41 (.bin .sub (.t 38) (.t 40)),
  oM 42 (.idxs 10 (.t 37) (.t 41)),
  oF 43 0 42,
  oN 44 43,
  oT 4 44] (some [[], [0], [], [], [3], [2, 4], [1, 5], [6], [7], [8, 4, 0, 1, 2, 3, 4, 5, 6, 7, 8]]))
 (.ret))))
theorem fn66 : env0.fn 66 = some ⟨45, ic66, [.t 4]⟩ := by kernel_rfl
set_option maxHeartbeats 4000000 in
set_option maxRecDepth 100000 in
theorem nm66 {c : Ctl} {k : Nat} (h1 : 1 <= c.act) (h6 : c.act <= 6) (hk : k < 2 * c.act.toNat) : PF Tryz.prog 66 [.agg (cC c), .int .i64 (k : Nat)] (.str (lnT k)) := by
 have hw : IntKind.wrap .i64 (2 * c.act) = 2 * c.act := zbb _ (by omega) (by omega);have h12 : k < 12 := by omega
 have : k = 0 \/ k = 1 \/ k = 2 \/ k = 3 \/ k = 4 \/ k = 5 \/ k = 6 \/ k = 7 \/ k = 8 \/ k = 9 \/ k = 10 \/ k = 11 := by omega
 rcases this with rfl | rfl | rfl | rfl | rfl | rfl | rfl | rfl | rfl | rfl | rfl | rfl;all_goals
  refine za6 env0_ok fn66 [(0, .agg (cC c)), (1, .int .i64 _)] (y04 rfl) rfl fun w0 N0 => ?_;unfold ic66 cC;refine zbh ?_;rw [hw];refine za4 rfl rfl rfl (fun _ => ?_) fun h3 => absurd (of_decide_eq_false h3) (by omega);refine zbh ?_;repeat (first | refine zay ?_ | refine zau ?_ | refine zby ?_ | refine zaw ?_ | refine zan rfl ?_ | refine zb3 (op := .add) rfl rfl rfl ?_ | refine zb3 (op := .quo) rfl rfl rfl ?_ | refine zb3 (op := .rem) rfl rfl rfl ?_ | refine zdf (v := .str _) rfl ?_)
  exact uE
theorem nmd_t {c : Ctl} {k : Nat} (h : k < 2 * c.act.toNat) : nmd c k = lnT k := by
 unfold nmd;rw [if_pos h]
theorem nmd_i {c : Ctl} {k : Nat} (h : ¬ k < 2 * c.act.toNat) (h2 : k < fsC c) : nmd c k = nA c.ins (k - 2 * c.act.toNat) := by
 unfold nmd;rw [if_neg h, if_pos h2]
theorem nmd_s {c : Ctl} {k : Nat} (h2 : ¬ k < fsC c) : nmd c k = (sgA c.sg (k - fsC c)).nm := by
 unfold nmd;rw [if_neg (by unfold fsC at h2; omega), if_neg h2]
theorem zw7 {c : Ctl} {k : Nat} (h : Sm c) (h1 : 1 <= c.act) (hk : k < lnC c) : PF Tryz.prog 66 [.agg (cC c), .int .i64 (k : Nat)] (.str (nmd c k)) := by
 by_cases c1 : k < 2 * c.act.toNat
 ·rw [nmd_t c1];exact nm66 h1 h.a6 c1
 have p := zhm h;have hw : IntKind.wrap .i64 (2 * c.act) = 2 * c.act := zbb _ (by have := h.a6; omega) (by have := h.a6; omega)
 have hf : fsC c = 2 * c.act.toNat + c.ins.length := rfl;have hli : lnC c = fsC c + c.sg.length := rfl;have ha := h.a6;have hi := h.i;have hs := h.s;by_cases c2 : k < fsC c
 ·rw [nmd_i c1 c2];have hge := n_get (l := c.ins) (i := k - 2 * c.act.toNat) (by omega);refine za6 env0_ok fn66 [(0, .agg (cC c)), (1, .int .i64 (k : Nat))] (y04 rfl) rfl fun w0 N0 => ?_;unfold ic66 cC vsN at *;refine zbh ?_;rw [hw];refine za4 rfl rfl rfl (fun h3 => absurd (of_decide_eq_true h3) (by omega)) fun _ => ?_;refine zb7 ?_;refine za4 rfl rfl rfl (fun _ => ?_) fun h3 => absurd (of_decide_eq_false h3) (by omega);refine zbh ?_;rw [hw, zbb _ (by omega) (by omega), show ((k : Nat) : Int) - 2 * c.act = ((k - 2 * c.act.toNat : Nat) : Int) by omega]
  refine zb7 ?_;exact uE
 ·rw [nmd_s c2];have hge := zdi (sg := c.sg) (i := k - fsC c) (by omega);generalize sgA c.sg (k - fsC c) = s at *;refine za6 env0_ok fn66 [(0, .agg (cC c)), (1, .int .i64 (k : Nat))] (y04 rfl) rfl fun w0 N0 => ?_;unfold ic66 cC vsG at *;refine zbh ?_;rw [hw];refine za4 rfl rfl rfl (fun h3 => absurd (of_decide_eq_true h3) (by omega)) fun _ => ?_;refine zb7 ?_;refine za4 rfl rfl rfl (fun h3 => absurd (of_decide_eq_true h3) (by omega)) fun _ => ?_;refine zl6 ?_;refine zc2 env0_ok _ (hL1 p) (fun f => Nat.beq f 11) rfl rfl rfl ?_;refine zbh ?_;rw [zbb _ (by omega) (by omega), show ((k : Nat) : Int) - (fsC c : Nat) = ((k - fsC c : Nat) : Int) by omega]
  refine zb4 ?_;exact uE
-- pneumatic/control.named
def ic107 : IC := sR [oM 2 (.box (.t 0)),
  oM 4 (.mov (.c (.str [])))]
 (sR [oL 6 5 2,
  oM 7 (.call (.c (.fn 47 [] [])) [(.t 6)]),
  oT 5 7]
 (.block 0 (sR [oT 17 1,
  oF 18 0 2,
  oN 19 18,
  oM 20 (.bin .mul (cI 2) (.t 19)),
  oM 21 (.bin .lss (.t 17) (.t 20)),
  oT 16 21]
 (.cond (.t 16) (sR [oT 22 1,
  oM 23 (.bin .quo (.t 22) (cI 2)),
  oM 24 (.bin .add (cI 97) (.t 23)),
  oM 25 (.conv .i32 (.t 24)),
  oM 26 (.rstr (.t 25)),
  oT 27 1,
  oM 28 (.bin .rem (.t 27) (cI 2)),
  oM 29 (.bin .add (cI 48) (.t 28)),
  oM 30 (.conv .i32 (.t 29)),
  oM 31 (.rstr (.t 30)),
  oM 32 (.bin .add (.t 26) (.t 31)),
  oT 4 32]
 (.ret))
 (sR [oT 34 1,
  oT 35 5,
  oM 36 (.bin .lss (.t 34) (.t 35)),
  oT 33 36]
 (.cond (.t 33) (sR [oF 37 1 2,
  oN 38 37,
  oT 39 1,
  oF 40 0 2,
  oN 41 40,
  oM 42 (.bin .mul (cI 2) (.t 41)),
  oM 43 (.bin .sub (.t 39) (.t 42)),
  oM 44 (.idxs 1 (.t 38) (.t 43)),
  oN 45 44,
  oT 4 45]
 (.ret))
 (sR [oF 8 2 2,
  oN 9 8,
  oT 10 1,
  oT 11 5,
  oM 12 (.bin .sub (.t 10) (.t 11)),
  oM 13 (.idxs 10 (.t 9) (.t 12)),
  oF 14 0 13,
  oN 15 14,
  oT 4 15]
 (.ret))))))))
theorem fn107 : env0.fn 107 = some ⟨46, ic107, [.t 4]⟩ := by kernel_rfl
set_option maxHeartbeats 1000000 in
theorem named107 {c : Ctl} {k : Nat} (h : Sm c) (h1 : 1 <= c.act) (hk : k < lnC c) : PF Tryz.prog 107 [.agg (cC c), .int .i64 (k : Nat)] (.str (nmd c k)) := by
 have p := zjv h;have hw : IntKind.wrap .i64 (2 * c.act) = 2 * c.act := zbb _ (by have := h.a6; omega) (by have := h.a6; omega)
 have hf : fsC c = 2 * c.act.toNat + c.ins.length := rfl;have hli : lnC c = fsC c + c.sg.length := rfl;have ha := h.a6;have hi := h.i;have hs := h.s;by_cases c1 : k < 2 * c.act.toNat
 ·rw [nmd_t c1];refine za6 env0_ok fn107 [(0, .agg (cC c)), (1, .int .i64 (k : Nat))] (y04 rfl) rfl fun w0 N0 => ?_;unfold ic107 cC at *;refine zbh ?_;rw [hw];refine za4 rfl rfl rfl (fun _ => ?_) fun h3 => absurd (of_decide_eq_false h3) (by omega);refine zcj ?_;have hk12 : k < 12 := by omega
  clear hk hli hf c1 hs hi p
  match k, hk12 with
  | 0, _ =>
   refine zb3 (op := .quo) rfl rfl rfl ?_;refine zb4 ?_;refine zcg rfl rfl ?_;repeat (first | refine zan rfl ?_)
   refine zb3 (op := .rem) rfl rfl rfl ?_;refine zb4 ?_;refine zcg rfl rfl ?_;refine zb7 ?_;exact uE
  | 1, _ =>
   refine zb3 (op := .quo) rfl rfl rfl ?_;refine zb4 ?_;refine zcg rfl rfl ?_;repeat (first | refine zan rfl ?_)
   refine zb3 (op := .rem) rfl rfl rfl ?_;refine zb4 ?_;refine zcg rfl rfl ?_;refine zb7 ?_;exact uE
  | 2, _ =>
   refine zb3 (op := .quo) rfl rfl rfl ?_;refine zb4 ?_;refine zcg rfl rfl ?_;repeat (first | refine zan rfl ?_)
   refine zb3 (op := .rem) rfl rfl rfl ?_;refine zb4 ?_;refine zcg rfl rfl ?_;refine zb7 ?_;exact uE
  | 3, _ =>
   refine zb3 (op := .quo) rfl rfl rfl ?_;refine zb4 ?_;refine zcg rfl rfl ?_;repeat (first | refine zan rfl ?_)
   refine zb3 (op := .rem) rfl rfl rfl ?_;refine zb4 ?_;refine zcg rfl rfl ?_;refine zb7 ?_;exact uE
  | 4, _ =>
   refine zb3 (op := .quo) rfl rfl rfl ?_;refine zb4 ?_;refine zcg rfl rfl ?_;repeat (first | refine zan rfl ?_)
   refine zb3 (op := .rem) rfl rfl rfl ?_;refine zb4 ?_;refine zcg rfl rfl ?_;refine zb7 ?_;exact uE
  | 5, _ =>
   refine zb3 (op := .quo) rfl rfl rfl ?_;refine zb4 ?_;refine zcg rfl rfl ?_;repeat (first | refine zan rfl ?_)
   refine zb3 (op := .rem) rfl rfl rfl ?_;refine zb4 ?_;refine zcg rfl rfl ?_;refine zb7 ?_;exact uE
  | 6, _ =>
   refine zb3 (op := .quo) rfl rfl rfl ?_;refine zb4 ?_;refine zcg rfl rfl ?_;repeat (first | refine zan rfl ?_)
   refine zb3 (op := .rem) rfl rfl rfl ?_;refine zb4 ?_;refine zcg rfl rfl ?_;refine zb7 ?_;exact uE
  | 7, _ =>
   refine zb3 (op := .quo) rfl rfl rfl ?_;refine zb4 ?_;refine zcg rfl rfl ?_;repeat (first | refine zan rfl ?_)
   refine zb3 (op := .rem) rfl rfl rfl ?_;refine zb4 ?_;refine zcg rfl rfl ?_;refine zb7 ?_;exact uE
  | 8, _ =>
   refine zb3 (op := .quo) rfl rfl rfl ?_;refine zb4 ?_;refine zcg rfl rfl ?_;repeat (first | refine zan rfl ?_)
   refine zb3 (op := .rem) rfl rfl rfl ?_;refine zb4 ?_;refine zcg rfl rfl ?_;refine zb7 ?_;exact uE
  | 9, _ =>
   refine zb3 (op := .quo) rfl rfl rfl ?_;refine zb4 ?_;refine zcg rfl rfl ?_;repeat (first | refine zan rfl ?_)
   refine zb3 (op := .rem) rfl rfl rfl ?_;refine zb4 ?_;refine zcg rfl rfl ?_;refine zb7 ?_;exact uE
  | 10, _ =>
   refine zb3 (op := .quo) rfl rfl rfl ?_;refine zb4 ?_;refine zcg rfl rfl ?_;repeat (first | refine zan rfl ?_)
   refine zb3 (op := .rem) rfl rfl rfl ?_;refine zb4 ?_;refine zcg rfl rfl ?_;refine zb7 ?_;exact uE
  | 11, _ =>
   refine zb3 (op := .quo) rfl rfl rfl ?_;refine zb4 ?_;refine zcg rfl rfl ?_;repeat (first | refine zan rfl ?_)
   refine zb3 (op := .rem) rfl rfl rfl ?_;refine zb4 ?_;refine zcg rfl rfl ?_;refine zb7 ?_;exact uE
 by_cases c2 : k < fsC c
 ·rw [nmd_i c1 c2];have hge := n_get (l := c.ins) (i := k - 2 * c.act.toNat) (by omega);refine za6 env0_ok fn107 [(0, .agg (cC c)), (1, .int .i64 (k : Nat))] (y04 rfl) rfl fun w0 N0 => ?_;unfold ic107 cC vsN at *;refine zbh ?_;rw [hw];refine za4 rfl rfl rfl (fun h3 => absurd (of_decide_eq_true h3) (by omega)) fun _ => ?_;refine zl6 ?_;refine za4 rfl rfl rfl (fun _ => ?_) fun h3 => absurd (of_decide_eq_false h3) (by omega);refine zbh ?_;rw [hw, zbb _ (by omega) (by omega), show ((k : Nat) : Int) - 2 * c.act = ((k - 2 * c.act.toNat : Nat) : Int) by omega]
  refine zb7 ?_;exact uE
 ·rw [nmd_s c2];have hge := zdi (sg := c.sg) (i := k - fsC c) (by omega);generalize sgA c.sg (k - fsC c) = s at *;refine za6 env0_ok fn107 [(0, .agg (cC c)), (1, .int .i64 (k : Nat))] (y04 rfl) rfl fun w0 N0 => ?_;unfold ic107 cC vsG at *;refine zbh ?_;rw [hw];refine za4 rfl rfl rfl (fun h3 => absurd (of_decide_eq_true h3) (by omega)) fun _ => ?_;refine zl6 ?_;refine za4 rfl rfl rfl (fun h3 => absurd (of_decide_eq_true h3) (by omega)) fun _ => ?_;refine zbh ?_;rw [zbb _ (by omega) (by omega), show ((k : Nat) : Int) - (fsC c : Nat) = ((k - fsC c : Nat) : Int) by omega]
  refine zb4 ?_;exact uE
end Go.Proofs.YtdolbghhcijonaaGreat
namespace Go.Proofs.YtdolbghhcijonaaGreat
open Go Go.Am
set_option maxRecDepth 100000
def smB (n : Nat) : Bool := decide (97 <= n) && decide (n <= 122)
def grB (n : Nat) : Bool := decide (65 <= n) && decide (n <= 90)
def prB (n : Nat) : Bool := smB n || (grB n || (decide (n = 95) || (decide (48 <= n) && decide (n <= 57))))
def wdB (s : List UInt8) : Bool := s.all (fun b => prB b.toNat) && (match s with
 | [] => false
 | b :: _ => smB b.toNat)
section
variable {P : Program} {w0 : World} {N0 : Nat} {k : List Fr} {Q : Exit -> AS -> Prop} {pf : Kn} {ios : List Opr} {n nx ck : Nat} {mk : List (Nat × Nat)} {md : Md} {l : List (Nat × AV)} {hp : List (Nat × Nat × AObj)}
theorem o_ixs {d : Nat} {x i : Arg} {s : List UInt8} {kd : IntKind} {z : Int} {b : UInt8} (hx : zar x l = some (.str s)) (hi : zar i l = some (.int kd z)) (h0 : 0 <= z) (hb : s[z.toNat]? = some b) (go : Om P w0 N0 md pf ios (st n ((d, .int .u8 b.toNat) :: l) hp nx ck mk) k Q) : Om P w0 N0 md pf (⟨some d, .idxstr x i, none⟩ :: ios) (st n l hp nx ck mk) k Q :=
 zdf (zlt ((zag x).trans hx) ((zag i).trans hi) h0 hb) go
end
-- pneumatic/control.part
def ic131 : IC := sR [oM 2 (.mov (.c (.bool false)))]
 (sR [oT 3 0,
  oM 4 (.bin .geq (.t 3) (.c (.int .u8 97))),
  oT 5 4,
  ⟨(some 6), .mov (.t 0), some (5, true)⟩,
  ⟨(some 7), .bin .leq (.t 6) (.c (.int .u8 122)), some (5, true)⟩,
  oM 8 (.pick (.t 5) (.t 7) (.c (.bool false))),
  oT 9 8,
  ⟨(some 10), .mov (.t 0), some (9, false)⟩,
  ⟨(some 11), .bin .geq (.t 10) (.c (.int .u8 65)), some (9, false)⟩,
  ⟨(some 12), .mov (.t 11), some (9, false)⟩,
  ⟨(some 13), .mov (.t 0), some (12, true)⟩,
  ⟨(some 14), .bin .leq (.t 13) (.c (.int .u8 90)), some (12, true)⟩,
  ⟨(some 15), .pick (.t 12) (.t 14) (.c (.bool false)), some (9, false)⟩,
  oM 16 (.pick (.t 9) (.c (.bool true)) (.t 15)),
  oT 17 16,
  ⟨(some 18), .mov (.t 0), some (17, false)⟩,
  ⟨(some 19), .bin .geq (.t 18) (.c (.int .u8 48)), some (17, false)⟩,
  ⟨(some 20), .mov (.t 19), some (17, false)⟩,
  ⟨(some 21), .mov (.t 0), some (20, true)⟩,
  ⟨(some 22), .bin .leq (.t 21) (.c (.int .u8 57)), some (20, true)⟩,
  ⟨(some 23), .pick (.t 20) (.t 22) (.c (.bool false)), some (17, false)⟩,
  oM 24 (.pick (.t 17) (.c (.bool true)) (.t 23)),
  oT 25 24,
  ⟨(some 26), .mov (.t 0), some (25, false)⟩,
  ⟨(some 27), .bin .eql (.t 26) (.c (.int .u8 95)), some (25, false)⟩,
  oM 28 (.pick (.t 25) (.c (.bool true)) (.t 27)),
  oT 2 28]
 (.ret))
theorem fn131 : env0.fn 131 = some ⟨29, ic131, [.t 2]⟩ := by kernel_rfl
set_option maxHeartbeats 4000000 in
set_option maxRecDepth 100000 in
theorem part131 (b : Nat) (_ : b < 256) : PF Tryz.prog 131 [.int .u8 b] (.bool (prB b)) := by
 refine za6 env0_ok fn131 [(0, .int .u8 b)] (y04 rfl) rfl fun w0 N0 => ?_;unfold ic131;repeat' first | refine zb5 ?_ | refine za8 rfl ?_ | refine zay ?_ | refine zau ?_ | refine zby ?_ | refine zgy rfl ?_ | refine znu rfl rfl ?_ | refine o_gt rfl ?_ | refine zan rfl ?_ | refine zbz rfl rfl ?_ | refine zb8 rfl rfl ?_ | refine za4 rfl rfl rfl (fun h => ?_) fun h => ?_
 all_goals
  refine zaa ⟨.inr rfl, _, rfl, congrArg AV.bool ?_⟩;simp only [decide_eq_true_eq, decide_eq_false_iff_not, beq_iff_eq, beq_eq_false_iff_ne, ne_eq, prB, smB, grB] at *;simp
  try omega
def rnB (x : Nat) : Bool := decide (122 < x) || !prB (x % 256)
-- (*pneumatic/control.checker).name$1
def ic130 : IC := sR [oM 2 (.mov (.c (.bool false)))]
 (sR [oT 3 0,
  oM 4 (.bin .gtr (.t 3) (.c (.int .i32 122))),
  oT 5 4,
  ⟨(some 6), .mov (.t 0), some (5, false)⟩,
  ⟨(some 7), .conv .u8 (.t 6), some (5, false)⟩,
  ⟨(some 8), .call (.c (.fn 131 [] [])) [(.t 7)], some (5, false)⟩,
  ⟨(some 9), .un .not (.t 8), some (5, false)⟩,
  oM 10 (.pick (.t 5) (.c (.bool true)) (.t 9)),
  oT 2 10]
 (.ret))
theorem fn130 : env0.fn 130 = some ⟨11, ic130, [.t 2]⟩ := by kernel_rfl
theorem name130 (x : Nat) (hx : x <= 1114111) : PF Tryz.prog 130 [.int .i32 x] (.bool (rnB x)) := by
 have p := part131 (x % 256) (Nat.mod_lt _ (by decide));have hw : IntKind.wrap .u8 ((x : Nat) : Int) = ((x % 256 : Nat) : Int) := by
  show ((x : Nat) : Int) % 256 = _;omega
 refine za6 env0_ok fn130 [(0, .int .i32 x)] (y04 rfl) rfl fun w0 N0 => ?_;unfold ic130 rnB;generalize prB (x % 256) = b at *;refine zcj ?_;refine za4 rfl rfl rfl (fun h => ?_) fun h => ?_
 ·have h : 122 < x := by have := of_decide_eq_true h; omega
  rw [decide_eq_true h];refine zc9 ?_;exact uE
 ·have h : ¬ 122 < x := by have := of_decide_eq_false h; omega
  rw [decide_eq_false h];refine zbh ?_;rw [hw];exact uE
def b67_0 : IC := .seq (sR [oT 6 3,
  oT 7 0,
  oM 8 (.len true (.t 7)),
  oM 9 (.bin .lss (.t 6) (.t 8))]
 (.cond (.t 9) (.skip)
 (.exit 0)))
 (.seq (.block 1 (.seq (.region [oT 12 0,
  oT 13 3,
  oM 14 (.idxstr (.t 12) (.t 13)),
  oM 15 (.bin .geq (.t 14) (.c (.int .u8 97))),
  oT 16 15,
  ⟨(some 17), .mov (.t 0), some (16, true)⟩,
  ⟨(some 18), .mov (.t 3), some (16, true)⟩,
  ⟨(some 19), .idxstr (.t 17) (.t 18), some (16, true)⟩,
  ⟨(some 20), .bin .leq (.t 19) (.c (.int .u8 122)), some (16, true)⟩,
  oM 21 (.pick (.t 16) (.t 20) (.c (.bool false))),
  oT 22 0,
  oT 23 3,
  oM 24 (.idxstr (.t 22) (.t 23)),
  oM 25 (.bin .geq (.t 24) (.c (.int .u8 65))),
  oT 26 25,
  ⟨(some 27), .mov (.t 0), some (26, true)⟩,
  ⟨(some 28), .mov (.t 3), some (26, true)⟩,
  ⟨(some 29), .idxstr (.t 27) (.t 28), some (26, true)⟩,
  ⟨(some 30), .bin .leq (.t 29) (.c (.int .u8 90)), some (26, true)⟩,
  oM 31 (.pick (.t 26) (.t 30) (.c (.bool false))),
  oT 4 21,
  oT 5 31] (some [[], [], [0, 1], [2], [3], [4], [4], [5, 6, 4], [7, 4], [4, 8], [], [], [10, 11], [12], [13, 4], [14], [14], [15, 16, 14], [17, 14], [14, 18], [9, 14, 0, 1, 2, 3, 4, 5, 6, 7, 8, 9], [19, 20, 0, 1, 2, 3, 4, 5, 6, 7, 8, 9, 10, 11, 12, 13, 14, 15, 16, 17, 18, 19, 20]]))
 (sR [oT 32 3,
  oM 33 (.bin .eql (.t 32) (cI 0)),
  oT 34 33,
  ⟨(some 35), .mov (.t 4), some (34, true)⟩,
  ⟨(some 36), .un .not (.t 35), some (34, true)⟩,
  oM 37 (.pick (.t 34) (.t 36) (.c (.bool false))),
  oT 38 37,
  ⟨(some 39), .mov (.t 4), some (38, false)⟩,
  ⟨(some 40), .un .not (.t 39), some (38, false)⟩,
  ⟨(some 41), .mov (.t 40), some (38, false)⟩,
  ⟨(some 42), .mov (.t 5), some (41, true)⟩,
  ⟨(some 43), .un .not (.t 42), some (41, true)⟩,
  ⟨(some 44), .pick (.t 41) (.t 43) (.c (.bool false)), some (38, false)⟩,
  ⟨(some 45), .mov (.t 44), some (38, false)⟩,
  ⟨(some 46), .mov (.t 0), some (45, true)⟩,
  ⟨(some 47), .mov (.t 3), some (45, true)⟩,
  ⟨(some 48), .idxstr (.t 46) (.t 47), some (45, true)⟩,
  ⟨(some 49), .bin .neq (.t 48) (.c (.int .u8 95)), some (45, true)⟩,
  ⟨(some 50), .pick (.t 45) (.t 49) (.c (.bool false)), some (38, false)⟩,
  ⟨(some 51), .mov (.t 50), some (38, false)⟩,
  ⟨(some 52), .mov (.t 0), some (51, true)⟩,
  ⟨(some 53), .mov (.t 3), some (51, true)⟩,
  ⟨(some 54), .idxstr (.t 52) (.t 53), some (51, true)⟩,
  ⟨(some 55), .bin .lss (.t 54) (.c (.int .u8 48)), some (51, true)⟩,
  ⟨(some 56), .mov (.t 55), some (51, true)⟩,
  ⟨(some 57), .mov (.t 0), some (56, false)⟩,
  ⟨(some 58), .mov (.t 3), some (56, false)⟩,
  ⟨(some 59), .idxstr (.t 57) (.t 58), some (56, false)⟩,
  ⟨(some 60), .bin .gtr (.t 59) (.c (.int .u8 57)), some (56, false)⟩,
  ⟨(some 61), .pick (.t 56) (.c (.bool true)) (.t 60), some (51, true)⟩,
  ⟨(some 62), .pick (.t 51) (.t 61) (.c (.bool false)), some (38, false)⟩,
  oM 63 (.pick (.t 38) (.c (.bool true)) (.t 62))]
 (.cond (.t 63) (sR [oM 2 (.mov (.c (.bool false)))]
 (.ret))
 (.skip)))))
 (.region [oT 10 3,
  oM 11 (.bin .add (.t 10) (cI 1)),
  oT 3 11] none))
-- pneumatic/pneumaticref27.word
def ic67 : IC := sR [oM 2 (.mov (.c (.bool false)))]
 (.seq (sR [oM 3 (.mov (cI 0))]
 (.block 0 (.loop b67_0)))
 (sR [oT 64 0,
  oM 65 (.bin .neq (.t 64) (.c (.str []))),
  oT 2 65]
 (.ret)))
theorem fn67 : env0.fn 67 = some ⟨66, ic67, [.t 2]⟩ := by kernel_rfl
def bdB (i : Nat) (b : Nat) : Bool := (decide (i = 0) && !smB b) || !prB b
theorem zuc (i n : Nat) : bdB i n = true ↔ ((i = 0 /\ ¬ (97 <= n /\ n <= 122)) \/ ¬ ((97 <= n /\ n <= 122) \/ (65 <= n /\ n <= 90) \/ n = 95 \/ (48 <= n /\ n <= 57))) := by
 unfold bdB prB smB grB;simp;omega
theorem wd_bad {s : List UInt8} {i : Nat} (h : i < s.length) (hb : bdB i s[i].toNat = true) : wdB s = false := by
 unfold bdB at hb;rw [y0v] at hb;unfold wdB;rcases hb with hb | hb
 ·rw [y0g, decide_eq_true_eq] at hb;obtain ⟨rfl, h2⟩ := hb;cases s with
  | nil => cases h
  | cons a r =>
   have h2 : (!smB a.toNat) = true := h2;have h2 : smB a.toNat = false := by simpa using h2
   show (_ && smB a.toNat) = false;rw [h2, Bool.and_false]
 ·have : s.all (fun b => prB b.toNat) = false := by
   rw [List.all_eq_false];exact ⟨s[i], y0x h, by simpa using hb⟩
  rw [this, y28]
theorem wd_good {s : List UInt8} (h : ∀ i (h : i < s.length), bdB i s[i].toNat = false) : wdB s = decide (s ≠ []) := by
 unfold wdB;have h1 : s.all (fun b => prB b.toNat) = true := by
  rw [y0h];intro b hb;obtain ⟨i, hi, rfl⟩ := List.getElem_of_mem hb;have := h i hi;unfold bdB at this;simp at this;exact this.2
 rw [h1, y1o];cases s with
 | nil => rfl
 | cons a r =>
  have := h 0 (Nat.zero_lt_succ _);unfold bdB at this;simp at this;show smB a.toNat = _;rw [this.1];rfl
set_option maxHeartbeats 4000000 in
theorem word67 (s : List UInt8) (hs : s.length <= 1000000) : PF Tryz.prog 67 [.str s] (.bool (wdB s)) := by
 refine za6 env0_ok fn67 [(0, .str s)] (y04 rfl) rfl fun w0 N0 => ?_;unfold ic67;refine zc9 ?_;refine zav (fun mm S => ∃ i, mm = s.length - i /\ i <= s.length /\ (∀ j (h : j < s.length), j < i -> bdB j s[j].toNat = false) /\ S = st 66 [(0, .str s), (3, .int .i64 (i : Nat))] [] 0 0) s.length
  skp ⟨0, rfl, y0r _, fun j _ h => absurd h (y1q _), rfl⟩ ?_
 rintro mm S ⟨i, rfl, hi, hv, rfl⟩;unfold b67_0;refine zbu ?_;refine za4 rfl rfl rfl (fun h3 => ?_) fun h3 => ?_
 ·have hlt : i < s.length := by have := of_decide_eq_true h3; omega
  have hg : s[((i : Nat) : Int).toNat]? = some s[i] := by rw [y1e, y0d hlt]
  have hbad := wd_bad hlt;have hsucc : bdB i s[i].toNat = false -> ∀ j (h : j < s.length), j < i + 1 -> bdB j s[j].toNat = false := fun h0 j hj hji => by
   rcases y1k.1 hji with h | rfl
   ·exact hv j hj h
   ·exact h0
  generalize s[i] = b at *;have hbad : (i = 0 /\ ¬ (97 <= b.toNat /\ b.toNat <= 122)) \/ ¬ ((97 <= b.toNat /\ b.toNat <= 122) \/ (65 <= b.toNat /\ b.toNat <= 90) \/ b.toNat = 95 \/ (48 <= b.toNat /\ b.toNat <= 57)) -> wdB s = false := fun h => hbad ((zuc i b.toNat).2 h);have hsucc : ¬ ((i = 0 /\ ¬ (97 <= b.toNat /\ b.toNat <= 122)) \/ ¬ ((97 <= b.toNat /\ b.toNat <= 122) \/ (65 <= b.toNat /\ b.toNat <= 90) \/ b.toNat = 95 \/ (48 <= b.toNat /\ b.toNat <= 57))) -> ∀ j (h : j < s.length), j < i + 1 -> bdB j s[j].toNat = false := fun h => hsucc (by
   cases hc : bdB i b.toNat with
   | false => rfl
   | true => exact absurd ((zuc i b.toNat).1 hc) h)
  clear hv h3;have w1 := za7 i (by omega);repeat' first | refine zb5 ?_ | refine za8 rfl ?_ | refine zay ?_ | refine zau ?_ | refine zg3 ?_ | refine zbc ?_ | refine zbd ?_ | refine zgi rfl ?_ | refine zfj rfl ?_ | refine zby ?_ | refine zaw ?_ | refine zct ?_ | refine zgy rfl ?_ | refine znu rfl rfl ?_ | refine o_gt rfl ?_ | refine zan rfl ?_ | refine zbz rfl rfl ?_ | refine zb8 rfl rfl ?_ | refine zto rfl rfl ?_ | refine zgg env0_ok rfl rfl rfl ?_ | refine zb3 (op := .add) rfl rfl rfl ?_ | refine o_ixs rfl rfl (y11 _) (by assumption) ?_ | refine za4 rfl rfl rfl (fun h => ?_) fun h => ?_
  all_goals
   simp only [decide_eq_true_eq, decide_eq_false_iff_not, beq_iff_eq, beq_eq_false_iff_ne, bne_iff_ne, ne_eq, bne_eq_false_iff_eq] at *;first
   | exact zaa ⟨.inr rfl, _, rfl, by rw [hbad (by omega)]; rfl⟩
   | (rw [w1]; exact zad (show s.length - (i + 1) < s.length - i by omega) skp ⟨i + 1, rfl, hlt, hsucc (by omega), rfl⟩)
 ·have hie : i = s.length := by have := of_decide_eq_false h3; omega
  have hg := wd_good fun j h => hv j h (by omega);rw [hg];refine zb4 ?_;refine zbq ?_;refine zb4 ?_;refine za4 rfl rfl rfl (fun h => ?_) fun h => ?_
  ·refine zcj ?_;have h : s ≠ [] := by simpa using h
   exact zaa ⟨.inr rfl, _, rfl, by rw [decide_eq_true h]; rfl⟩
  ·refine zcj ?_;have h : s = [] := by simpa using h
   exact zaa ⟨.inr rfl, _, rfl, by rw [decide_eq_false (by simpa using h)]; rfl⟩
end Go.Proofs.YtdolbghhcijonaaGreat
namespace Go.Proofs.YtdolbghhcijonaaGreat
open Go Go.Am
set_option maxRecDepth 100000
def b103_0 : IC := .seq (sR [oT 13 5,
  oF 14 2 2,
  oN 15 14,
  oM 16 (.len false (.t 15)),
  oM 17 (.bin .lss (.t 13) (.t 16))]
 (.cond (.t 17) (.skip)
 (.exit 0)))
 (.seq (.block 1 (sR [oF 20 2 2,
  oN 21 20,
  oT 22 5,
  oM 23 (.idxs 3 (.t 21) (.t 22)),
  oL 24 3 23,
  oT 25 1,
  oM 26 (.call (.c (.fn 103 [] [])) [(.t 24), (.t 25)])]
 (.cond (.t 26) (sR [oM 4 (.mov (.c (.bool true)))]
 (.ret))
 (.skip))))
 (.region [oT 18 5,
  oM 19 (.bin .add (.t 18) (cI 1)),
  oT 5 19] none))
-- pneumatic/pneumaticref05.Occurs
def ic103 : IC := sR [oM 2 (.box (.t 0)),
  oM 4 (.mov (.c (.bool false)))]
 (.seq (sR [oF 6 0 2,
  oN 7 6,
  oM 8 (.bin .eql (.t 7) (cI 1))]
 (.cond (.t 8) (sR [oF 9 1 2,
  oN 10 9,
  oT 11 1,
  oM 12 (.bin .eql (.t 10) (.t 11)),
  oT 4 12]
 (.ret))
 (.skip)))
 (.seq (sR [oM 5 (.mov (cI 0))]
 (.block 0 (.loop b103_0)))
 (sR [oM 4 (.mov (.c (.bool false)))]
 (.ret))))
theorem fn103 : env0.fn 103 = some ⟨27, ic103, [.t 4]⟩ := by kernel_rfl
mutual
def occB (v : Int) : Ex -> Bool
 | .nd op ix args => if op = 1 then decide (ix = v) else occL v args
def occL (v : Int) : List Ex -> Bool
 | [] => false
 | y :: ys => occB v y || occL v ys
end
theorem zwe (v : Int) {args : List Ex} {i : Nat} (h : i < args.length) : occL v (args.drop i) = (occB v args[i] || occL v (args.drop (i + 1))) := by
 rw [y0q h, occL]
set_option maxHeartbeats 2000000 in
theorem occurs94 (v : Int) : ∀ (q : Nat) (x : Ex), SizeOf.sizeOf x <= q -> Slim x -> PF Tryz.prog 103 [.agg (cX x), .int .i64 v] (.bool (occB v x)) := by
 intro q
 induction q with
 | zero => intro x hq; cases x; simp at hq
 | succ q ih =>
  intro x hq hs;obtain ⟨op, ix, args⟩ := x;obtain ⟨hlen, hsl⟩ := zks hs;refine za6 env0_ok fn103 [(0, .agg (cX (.nd op ix args))), (1, .int .i64 v)] (by show 2 <= 27; decide) rfl fun w0 N0 => ?_
  unfold ic103;rw [occB];refine zsr rfl (zd6 rfl rfl (zan rfl (onu ?_)));refine zc3 [] [(0, 0, cX (.nd op ix args))] [(1, .int .i64 v), (2, .vptr (cX (.nd op ix args)))] rfl (.cons rfl rfl .nil) .nil (.cons rfl (.same rfl) (.cons rfl (.fptr rfl rfl) .nil)) ?_;refine gge0 ?_;refine za4 rfl rfl rfl (fun h1 => ?_) fun h1 => ?_
  ·rw [if_pos (by simpa using h1)];refine gge1 ?_;refine za4 rfl rfl rfl (fun h2 => ?_) fun h2 => ?_
   ·refine gge1 ?_;exact zaa ⟨.inr rfl, _, rfl, by rw [decide_eq_true (by simpa using h2)]; rfl⟩
   ·refine gge1 ?_;exact zaa ⟨.inr rfl, _, rfl, by rw [decide_eq_false (by simpa using h2)]; rfl⟩
  ·rw [if_neg (by simpa using h1)];refine gge2 ?_;refine zav (fun mm S => ∃ i, mm = args.length - i /\ i <= args.length /\ occL v args = occL v (args.drop i) /\
     S = st 27 [(1, .int .i64 v), (2, .vptr (cX (.nd op ix args))), (5, .int .i64 (i : Nat))] [] 0 1) args.length
    skp ⟨0, rfl, y0r _, rfl, rfl⟩ ?_
   rintro mm S ⟨i, rfl, hi, hall, rfl⟩;unfold b103_0;refine gge2 ?_;refine za4 rfl rfl rfl (fun h3 => ?_) fun h3 => ?_
   ·have hlt : i < args.length := by
     have := of_decide_eq_true h3;rw [zai] at this;omega
    rw [zwe v hlt] at hall;have hge := ze2 hlt;have hmem : args[i] ∈ args := y0x hlt;have py := ih args[i] (by have := zgm (op := op) (ix := ix) hmem; omega) (hsl _ hmem)
    generalize args[i] = y at *;generalize occB v y = oy at *;obtain ⟨yo, yi, ya⟩ := y;refine gge2 ?_;refine zal rfl rfl py (fun h => Bool.noConfusion (show false = true from h)) ?_
    cases oy with
    | true =>
     refine gge3 ?_;exact zaa ⟨.inr rfl, _, rfl, by rw [hall]; rfl⟩
    | false =>
     rw [Bool.false_or] at hall;refine gge3 ?_;rw [za7 i (by omega)];exact zad (show args.length - (i + 1) < args.length - i by omega) skp ⟨i + 1, rfl, hlt, hall, rfl⟩
   ·have hi2 : i = args.length := by
     have := of_decide_eq_false h3;rw [zai] at this;omega
    rw [hi2, y1l, occL] at hall;refine gge4 ?_;refine zbq ?_;refine gge4 ?_;exact zaa ⟨.inr rfl, _, rfl, by rw [hall]; rfl⟩
end Go.Proofs.YtdolbghhcijonaaGreat
namespace Go.Proofs.YtdolbghhcijonaaGreat
open Go Go.Am
set_option maxRecDepth 100000
def fz (f : Nat -> Int) : Nat -> Nat -> Int
 | _, 0 => 0
 | i, k + 1 => if f i = 0 then fz f (i + 1) k else f i
theorem zvd {f : Nat -> Int} {i n : Nat} (h : i < n) : fz f i (n - i) = if f i = 0 then fz f (i + 1) (n - (i + 1)) else f i := by
 obtain ⟨k, hk⟩ : ∃ k, n - i = k + 1 := ⟨n - i - 1, by omega⟩
 rw [hk, fz, show n - (i + 1) = k by omega]
theorem fz_end {f : Nat -> Int} {n : Nat} : fz f n (n - n) = 0 := by
 rw [Nat.sub_self, fz]
theorem zpv {f : Nat -> Int} : ∀ {i k : Nat}, fz f i k = 0 -> ∀ j, i <= j -> j < i + k -> f j = 0
 | i, 0, _, j, h1, h2 => by omega
 | i, k + 1, h, j, h1, h2 => by
  rw [fz] at h;split at h
  ·rename_i h0;by_cases e : j = i
   ·rw [e]; exact h0
   ·exact zpv h j (by omega) (by omega)
  ·contradiction
structure Sml (c : Ctl) : Prop extends Sm c where
 ni : ∀ i, i < c.ins.length -> (nA c.ins i).length <= 200
 ns : ∀ s, s ∈ c.sg -> s.nm.length <= 200
 x1 : ∀ s, s ∈ c.sg -> Slim s.on /\ Slim s.off
 p1 : c.pl.length <= 40
 m1 : c.mi.length <= 40
theorem Sml.nmd_len {c : Ctl} (h : Sml c) {k : Nat} (hk : k < lnC c) : (nmd c k).length <= 200 := by
 unfold nmd;split
 ·show 2 <= 200; decide
 ·split
  ·exact h.ni _ (by unfold fsC at *; omega)
  ·exact h.ns _ (zkr (by unfold lnC at *; omega))
def twB (c : Ctl) (k : Nat) : Bool := (List.range k).any fun i => nmd c i == nmd c k
def nmE (c : Ctl) (k : Nat) : Int := if wdB (nmd c k) = false then 3 else if 24 < (nmd c k).length then 17 else if twB c k = true then 7 else 0
def b42_0 : IC := .seq (sR [oT 16 6,
  oT 17 1,
  oM 18 (.bin .lss (.t 16) (.t 17))]
 (.cond (.t 18) (.skip)
 (.exit 0)))
 (.seq (.block 1 (sR [oL 21 5 2,
  oT 22 6,
  oM 23 (.call (.c (.fn 66 [] [])) [(.t 21), (.t 22)]),
  oT 24 5,
  oM 25 (.bin .eql (.t 23) (.t 24))]
 (.cond (.t 25) (sR [oM 4 (.mov (cI 7))]
 (.ret))
 (.skip))))
 (.region [oT 19 6,
  oM 20 (.bin .add (.t 19) (cI 1)),
  oT 6 20] none))
-- pneumatic/pneumaticref27.name
def ic42 : IC := sR [oM 2 (.box (.t 0)),
  oM 4 (.mov (cI 0))]
 (sR [oL 7 5 2,
  oT 8 1,
  oM 9 (.call (.c (.fn 66 [] [])) [(.t 7), (.t 8)]),
  oT 5 9]
 (.seq (sR [oT 10 5,
  oM 11 (.call (.c (.fn 67 [] [])) [(.t 10)]),
  oM 12 (.un .not (.t 11))]
 (.cond (.t 12) (sR [oM 4 (.mov (cI 3))]
 (.ret))
 (.skip)))
 (.seq (sR [oT 13 5,
  oM 14 (.len true (.t 13)),
  oM 15 (.bin .gtr (.t 14) (cI 24))]
 (.cond (.t 15) (sR [oM 4 (.mov (cI 17))]
 (.ret))
 (.skip)))
 (.seq (sR [oM 6 (.mov (cI 0))]
 (.block 0 (.loop b42_0)))
 (sR [oM 4 (.mov (cI 0))]
 (.ret))))))
theorem fn42 : env0.fn 42 = some ⟨26, ic42, [.t 4]⟩ := by kernel_rfl
set_option maxHeartbeats 2000000 in
set_option maxRecDepth 100000 in
theorem name42 {c : Ctl} {k : Nat} (h : Sml c) (h1 : 1 <= c.act) (hk : k < lnC c) : PF Tryz.prog 42 [.agg (cC c), .int .i64 (k : Nat)] (.int .i64 (nmE c k)) := by
 have hlen := h.nmd_len hk;have p1 := zw7 h.toSm h1 hk;have p2 := word67 (nmd c k) (by omega);have hlk : k <= 300 := by
  have := h.i;have := h.s;have := h.a6;unfold lnC fsC at hk;omega
 refine za6 env0_ok fn42 [(0, .agg (cC c)), (1, .int .i64 (k : Nat))] (y04 rfl) rfl fun w0 N0 => ?_;unfold ic42 nmE;have htw : ∀ i, i < k -> nmd c i = nmd c k -> twB c k = true := fun i hi e => by
  unfold twB;rw [y2f];exact ⟨i, y0m.2 hi, by rw [e]; exact beq_self_eq_true _⟩
 have htf : (∀ i, i < k -> ¬ nmd c i = nmd c k) -> twB c k = false := fun hf => by
  unfold twB;rw [List.any_eq_false];intro i hi;have := hf i (y0m.1 hi);simpa using this
 generalize nmd c k = s at *;generalize wdB s = wb at *;unfold cC at *;refine zbh ?_;cases wb with
 | false =>
  refine zbu ?_;exact uE
 | true =>
  rw [if_neg (by decide)];refine zbu ?_;refine za4 rfl rfl rfl (fun h2 => ?_) fun h2 => ?_
  ·have h2 : 24 < s.length := by have := of_decide_eq_true h2; omega
   rw [if_pos h2];refine zbu ?_;exact uE
  ·have h2 : ¬ 24 < s.length := by have := of_decide_eq_false h2; omega
   rw [if_neg h2];refine zc9 ?_;refine zc3 [] [(0, 0, cC c)] [(1, .int .i64 (k : Nat)), (2, .vptr (cC c)), (5, .str s), (6, .int .i64 0)] rfl (.cons rfl rfl .nil) .nil (.cons rfl (.same rfl) (.cons rfl (.fptr rfl rfl) (.cons rfl (.same rfl) (.cons rfl (.same rfl) .nil)))) ?_;refine zav (fun mm S => ∃ i, mm = k - i /\ i <= k /\ (∀ j, j < i -> ¬ nmd c j = s) /\ S = st 26 [(1, .int .i64 (k : Nat)), (2, .vptr (cC c)), (5, .str s), (6, .int .i64 (i : Nat))] [] 0 1) k
    skp ⟨0, rfl, y0r _, fun j hj => absurd hj (y1q _), rfl⟩ ?_
   rintro mm S ⟨i, rfl, hi, hv, rfl⟩;unfold b42_0 cC;refine zcj ?_;refine za4 rfl rfl rfl (fun h3 => ?_) fun h3 => ?_
   ·have hlt : i < k := by have := of_decide_eq_true h3; omega
    have p3 := zw7 h.toSm h1 (show i < lnC c by omega)
    have w1 := za7 i (by omega);unfold cC at p3;refine zb7 ?_;refine za4 rfl rfl rfl (fun h4 => ?_) fun h4 => ?_
    ·have h4 : nmd c i = s := by simpa using h4
     rw [if_pos (htw i hlt h4)];refine zb7 ?_;exact uE
    ·have h4 : ¬ nmd c i = s := by simpa using h4
     refine zb7 ?_;rw [w1];refine zad (show k - (i + 1) < k - i by omega) skp ⟨i + 1, rfl, hlt, fun j hj => ?_, rfl⟩
     rcases y1k.1 hj with hj | rfl
     ·exact hv j hj
     ·exact h4
   ·have hie : i = k := by have := of_decide_eq_false h3; omega
    rw [if_neg (by rw [htf fun j hj => hv j (by omega)]; decide)];refine zb4 ?_;refine zbq ?_;refine zb4 ?_;exact uE
def ltB (c : Ctl) (i : Nat) (k : Nat) : Bool := decide ((sgA c.sg k).kd = 0) && occB ((fsC c + k : Nat) : Int) (sgA c.sg i).on
def ziu (c : Ctl) (i : Nat) : Bool := (List.range c.sg.length).any fun k => decide (i <= k) && ltB c i k
def b70_0 : IC := .seq (sR [oT 7 5,
  oF 8 2 2,
  oN 9 8,
  oM 10 (.len false (.t 9)),
  oM 11 (.bin .lss (.t 7) (.t 10))]
 (.cond (.t 11) (.skip)
 (.exit 0)))
 (.seq (.block 1 (.seq (.region [oF 14 2 2,
  oN 15 14,
  oT 16 5,
  oM 17 (.idxs 10 (.t 15) (.t 16)),
  oF 18 1 17,
  oN 19 18,
  oM 20 (.bin .eql (.t 19) (cI 0)),
  oT 21 20,
  ⟨(some 22), .faddr 2 (.t 2), some (21, true)⟩,
  ⟨(some 23), .load none (.t 22), some (21, true)⟩,
  ⟨(some 24), .mov (.t 1), some (21, true)⟩,
  ⟨(some 25), .idxs 10 (.t 23) (.t 24), some (21, true)⟩,
  ⟨(some 26), .faddr 2 (.t 25), some (21, true)⟩,
  ⟨(some 27), .load (some 3) (.t 26), some (21, true)⟩,
  ⟨(some 28), .load (some 5) (.t 2), some (21, true)⟩,
  ⟨(some 29), .call (.c (.fn 11 [] [])) [(.t 28)], some (21, true)⟩,
  ⟨(some 30), .mov (.t 5), some (21, true)⟩,
  ⟨(some 31), .bin .add (.t 29) (.t 30), some (21, true)⟩,
  ⟨(some 32), .call (.c (.fn 103 [] [])) [(.t 27), (.t 31)], some (21, true)⟩,
  oM 33 (.pick (.t 21) (.t 32) (.c (.bool false)))] (some [[], [0], [], [1, 2], [3], [4], [5], [6], [7], [8, 7], [7], [9, 10, 7], [11, 7], [12, 7], [7], [14, 7, 7], [7], [15, 16, 7], [13, 17, 15, 7], [7, 18]]))
 (.cond (.t 33) (sR [oM 4 (.mov (.c (.bool true)))]
 (.ret))
 (.skip))))
 (.region [oT 12 5,
  oM 13 (.bin .add (.t 12) (cI 1)),
  oT 5 13] none))
-- pneumatic/pneumaticref27.late
def ic70 : IC := sR [oM 2 (.box (.t 0)),
  oM 4 (.mov (.c (.bool false)))]
 (.seq (sR [oT 6 1,
  oT 5 6]
 (.block 0 (.loop b70_0)))
 (sR [oM 4 (.mov (.c (.bool false)))]
 (.ret)))
theorem fn70 : env0.fn 70 = some ⟨34, ic70, [.t 4]⟩ := by kernel_rfl
set_option maxHeartbeats 2000000 in
set_option maxRecDepth 100000 in
theorem late70 {c : Ctl} {i : Nat} (h : Sml c) (hi : i < c.sg.length) : PF Tryz.prog 70 [.agg (cC c), .int .i64 (i : Nat)] (.bool (ziu c i)) := by
 have hs128 := h.s;have hi32 := h.i;have ha6 := h.a6;have hgl := zel c.sg;have p11 := zhm h.toSm;have hge := zdi hi;have hfs : fsC c <= 1000 := by unfold fsC; omega
 have htr : ∀ k, i <= k -> k < c.sg.length -> ltB c i k = true -> ziu c i = true := fun k h1 h2 e => by
  unfold ziu;rw [y2f];exact ⟨k, y0m.2 h2, by rw [e, decide_eq_true h1]; rfl⟩
 have hfa : (∀ k, i <= k -> k < c.sg.length -> ltB c i k = false) -> ziu c i = false := fun hf => by
  unfold ziu;rw [List.any_eq_false];intro k hk;by_cases c1 : i <= k
  ·rw [hf k c1 (y0m.1 hk), Bool.and_false]; exact y2a
  ·rw [decide_eq_false c1]; exact y2a
 have hsl := (h.x1 _ (zkr hi)).1;have hoc := fun v => occurs94 v _ (sgA c.sg i).on (y08 _) hsl;rw [zhv] at hoc;refine za6 env0_ok fn70 [(0, .agg (cC c)), (1, .int .i64 (i : Nat))] (y04 rfl) rfl fun w0 N0 => ?_;unfold ic70;refine zb7 ?_;refine zc3 [] [(0, 0, cC c)] [(1, .int .i64 (i : Nat)), (2, .vptr (cC c)), (5, .int .i64 (i : Nat))] rfl (.cons rfl rfl .nil) .nil (.cons rfl (.same rfl) (.cons rfl (.fptr rfl rfl) (.cons rfl (.same rfl) .nil))) ?_;refine zav (fun mm S => ∃ k, mm = c.sg.length - k /\ i <= k /\ k <= c.sg.length /\ (∀ j, i <= j -> j < k -> ltB c i j = false) /\ S = st 34 [(1, .int .i64 (i : Nat)), (2, .vptr (cC c)), (5, .int .i64 (k : Nat))] [] 0 1) (c.sg.length - i)
  skp ⟨i, rfl, y08 _, Nat.le_of_lt hi, fun j h1 h2 => by omega, rfl⟩ ?_
 rintro mm S ⟨k, rfl, hik, hk, hv, rfl⟩;unfold b70_0 cC vsG;refine zb4 ?_;rw [hgl];refine za4 rfl rfl rfl (fun h3 => ?_) fun h3 => ?_
 ·have hlt : k < c.sg.length := by have := of_decide_eq_true h3; omega
  have hgk := zdi hlt;have w1 := za7 k (by omega);have w2 : IntKind.wrap .i64 (((fsC c : Nat) : Int) + (k : Nat)) = ((fsC c + k : Nat) : Int) := by rw [zbb _ (by omega) (by omega)]; omega
  have htk := htr k hik hlt;have hnx : (decide ((sgA c.sg k).kd = 0) && occB ((fsC c + k : Nat) : Int) (sgA c.sg i).on) = false -> ∀ j, i <= j -> j < k + 1 -> ltB c i j = false := fun h0 j h1 h2 => by
   rcases y1k.1 h2 with h2 | rfl
   ·exact hv j h1 h2
   ·exact h0
  have hock := hoc ((fsC c + k : Nat) : Int);unfold ltB at htk;unfold cC vsG at p11;generalize sgA c.sg k = sk at *;generalize occB _ (sgA c.sg i).on = ob at *;generalize sgA c.sg i = si at *;generalize fsC c = f at *;refine zc9 ?_;refine zc2 env0_ok _ (hL2 p11 hock) (fun g => Nat.beq g 11 || Nat.beq g 103) rfl rfl rfl ?_;refine zb4 ?_;refine za4 rfl rfl rfl (fun h4 => ?_) fun h4 => ?_
  ·have h4 : sk.kd = 0 := by simpa using h4
   rw [decide_eq_true h4, y1o] at htk;refine zbh ?_;rw [w2];refine zbh ?_;cases ob with
   | true =>
    rw [htk rfl];refine zb7 ?_;exact uE
   | false =>
    refine zb7 ?_;rw [w1];exact zad (show c.sg.length - (k + 1) < c.sg.length - k by omega) skp ⟨k + 1, rfl, by omega, hlt, hnx (by rw [Bool.and_false]), rfl⟩
  ·have h4 : ¬ sk.kd = 0 := by simpa using h4
   refine zb7 ?_;rw [w1];exact zad (show c.sg.length - (k + 1) < c.sg.length - k by omega) skp ⟨k + 1, rfl, by omega, hlt, hnx (by rw [decide_eq_false h4, y28]), rfl⟩
 ·have hie : k = c.sg.length := by have := of_decide_eq_false h3; omega
  rw [hfa fun j h1 h2 => hv j h1 (by omega)];refine zb4 ?_;refine zbq ?_;refine zb4 ?_;exact uE
end Go.Proofs.YtdolbghhcijonaaGreat
namespace Go.Proofs.YtdolbghhcijonaaGreat
open Go Go.Am
set_option maxRecDepth 100000
def sgT (s : Sig) (lt : Bool) : Int :=
 if (decide (s.kd = 0) && lt) = true then 9 else
 if (decide (s.kd = 2) && (decide (s.dl < 1) || decide (1000000 < s.dl))) = true then 2 else
 if ((!decide (s.kd = 1) && (!zxp s.off || s.ini)) || (!decide (s.kd = 2) && !decide (s.dl = 0))) = true then 3 else 0
def sgE (c : Ctl) (i : Nat) : Int :=
 if ¬ nmE c (fsC c + i) = 0 then nmE c (fsC c + i) else
 if (sgA c.sg i).kd < 0 \/ 3 <= (sgA c.sg i).kd then 1 else
 if ¬ zd7 (sgA c.sg i).on (lnC c) = 0 then zd7 (sgA c.sg i).on (lnC c) else
 if (sgA c.sg i).kd = 1 /\ ¬ zd7 (sgA c.sg i).off (lnC c) = 0 then zd7 (sgA c.sg i).off (lnC c) else
 sgT (sgA c.sg i) (ziu c i)
-- pneumatic/pneumaticref27.signal
def ic43 : IC := sR [oM 2 (.box (.t 0)),
  oM 4 (.mov (cI 0))]
 (sR [oF 11 2 2,
  oN 12 11,
  oT 13 1,
  oM 14 (.idxs 10 (.t 12) (.t 13)),
  oL 15 10 14,
  oM 5 (.alloc [.str [], .int .i64 0, .int .i64 0, .int .i64 0, .nils, .int .i64 0, .int .i64 0, .nils, .int .i64 0, .bool false]),
  ⟨none, .store 10 (.t 5) (.t 15), none⟩]
 (.seq (.seq (.region [oL 16 5 2,
  oL 17 5 2,
  oM 18 (.call (.c (.fn 11 [] [])) [(.t 17)]),
  oT 19 1,
  oM 20 (.bin .add (.t 18) (.t 19)),
  oM 21 (.call (.c (.fn 42 [] [])) [(.t 16), (.t 20)]),
  oT 6 21] (some [[], [], [1], [], [2, 3], [0, 4, 2], [5, 5, 0, 1, 2, 3, 4, 5]]))
 (sR [oT 22 6,
  oM 23 (.bin .neq (.t 22) (cI 0))]
 (.cond (.t 23) (sR [oT 24 6,
  oT 4 24]
 (.ret))
 (.skip))))
 (.seq (sR [oF 25 1 5,
  oN 26 25,
  oM 27 (.bin .lss (.t 26) (cI 0)),
  oT 28 27,
  ⟨(some 29), .faddr 1 (.t 5), some (28, false)⟩,
  ⟨(some 30), .load none (.t 29), some (28, false)⟩,
  ⟨(some 31), .bin .geq (.t 30) (cI 3), some (28, false)⟩,
  oM 32 (.pick (.t 28) (.c (.bool true)) (.t 31))]
 (.cond (.t 32) (sR [oM 4 (.mov (cI 1))]
 (.ret))
 (.skip)))
 (.seq (.seq (.region [oF 33 2 5,
  oL 34 3 33,
  oL 35 5 2,
  oM 36 (.call (.c (.fn 69 [] [])) [(.t 35)]),
  oM 37 (.call (.c (.fn 68 [] [])) [(.t 34), (.t 36)]),
  oT 7 37] (some [[], [0], [], [2], [1, 3, 3], [4, 4, 0, 1, 2, 3, 4]]))
 (sR [oT 38 7,
  oM 39 (.bin .neq (.t 38) (cI 0))]
 (.cond (.t 39) (sR [oT 40 7,
  oT 4 40]
 (.ret))
 (.skip))))
 (.seq (.region [oF 41 1 5,
  oN 42 41,
  oM 43 (.bin .eql (.t 42) (cI 1)),
  oF 44 1 5,
  oN 45 44,
  oM 46 (.bin .eql (.t 45) (cI 2)),
  oT 8 43,
  oT 9 46] (some [[], [0], [1], [], [3], [4], [2, 0, 1, 2], [5, 6, 0, 1, 2, 3, 4, 5, 6]]))
 (.seq (sR [oT 47 8]
 (.cond (.t 47) (.seq (.region [oF 48 5 5,
  oL 49 3 48,
  oL 50 5 2,
  oM 51 (.call (.c (.fn 69 [] [])) [(.t 50)]),
  oM 52 (.call (.c (.fn 68 [] [])) [(.t 49), (.t 51)]),
  oT 10 52] (some [[], [0], [], [2], [1, 3, 3], [4, 4, 0, 1, 2, 3, 4]]))
 (sR [oT 53 10,
  oM 54 (.bin .neq (.t 53) (cI 0))]
 (.cond (.t 54) (sR [oT 55 10,
  oT 4 55]
 (.ret))
 (.skip))))
 (.skip)))
 (.seq (sR [oF 56 1 5,
  oN 57 56,
  oM 58 (.bin .eql (.t 57) (cI 0)),
  oT 59 58,
  ⟨(some 60), .load (some 5) (.t 2), some (59, true)⟩,
  ⟨(some 61), .mov (.t 1), some (59, true)⟩,
  ⟨(some 62), .call (.c (.fn 70 [] [])) [(.t 60), (.t 61)], some (59, true)⟩,
  oM 63 (.pick (.t 59) (.t 62) (.c (.bool false)))]
 (.cond (.t 63) (sR [oM 4 (.mov (cI 9))]
 (.ret))
 (.skip)))
 (.seq (sR [oT 64 9,
  oT 65 64,
  ⟨(some 66), .faddr 8 (.t 5), some (65, true)⟩,
  ⟨(some 67), .load none (.t 66), some (65, true)⟩,
  ⟨(some 68), .bin .lss (.t 67) (cI 1), some (65, true)⟩,
  ⟨(some 69), .mov (.t 68), some (65, true)⟩,
  ⟨(some 70), .faddr 8 (.t 5), some (69, false)⟩,
  ⟨(some 71), .load none (.t 70), some (69, false)⟩,
  ⟨(some 72), .bin .gtr (.t 71) (cI 1000000), some (69, false)⟩,
  ⟨(some 73), .pick (.t 69) (.c (.bool true)) (.t 72), some (65, true)⟩,
  oM 74 (.pick (.t 65) (.t 73) (.c (.bool false)))]
 (.cond (.t 74) (sR [oM 4 (.mov (cI 2))]
 (.ret))
 (.skip)))
 (.seq (sR [oT 75 8,
  oM 76 (.un .not (.t 75)),
  oT 77 76,
  ⟨(some 78), .faddr 5 (.t 5), some (77, true)⟩,
  ⟨(some 79), .load (some 3) (.t 78), some (77, true)⟩,
  ⟨(some 80), .call (.c (.fn 71 [] [])) [(.t 79)], some (77, true)⟩,
  ⟨(some 81), .un .not (.t 80), some (77, true)⟩,
  ⟨(some 82), .mov (.t 81), some (77, true)⟩,
  ⟨(some 83), .faddr 9 (.t 5), some (82, false)⟩,
  ⟨(some 84), .load none (.t 83), some (82, false)⟩,
  ⟨(some 85), .pick (.t 82) (.c (.bool true)) (.t 84), some (77, true)⟩,
  oM 86 (.pick (.t 77) (.t 85) (.c (.bool false))),
  oT 87 86,
  ⟨(some 88), .mov (.t 9), some (87, false)⟩,
  ⟨(some 89), .un .not (.t 88), some (87, false)⟩,
  ⟨(some 90), .mov (.t 89), some (87, false)⟩,
  ⟨(some 91), .faddr 8 (.t 5), some (90, true)⟩,
  ⟨(some 92), .load none (.t 91), some (90, true)⟩,
  ⟨(some 93), .bin .neq (.t 92) (cI 0), some (90, true)⟩,
  ⟨(some 94), .pick (.t 90) (.t 93) (.c (.bool false)), some (87, false)⟩,
  oM 95 (.pick (.t 87) (.c (.bool true)) (.t 94))]
 (.cond (.t 95) (sR [oM 4 (.mov (cI 3))]
 (.ret))
 (.skip)))
 (sR [oM 4 (.mov (cI 0))]
 (.ret)))))))))))
theorem fn43 : env0.fn 43 = some ⟨96, ic43, [.t 4]⟩ := by kernel_rfl
set_option maxHeartbeats 8000000 in
set_option maxRecDepth 100000 in
theorem signal43 {c : Ctl} {i : Nat} (h : Sml c) (h1 : 1 <= c.act) (hi : i < c.sg.length) : PF Tryz.prog 43 [.agg (cC c), .int .i64 (i : Nat)] (.int .i64 (sgE c i)) := by
 have hs128 := h.s;have hi32 := h.i;have ha6 := h.a6;have hgl := zel c.sg;have p11 := zhm h.toSm;have p69 := zvy h.toSm;have hge := zdi hi;have hfs : fsC c <= 1000 := by unfold fsC; omega
 have p42 := name42 h h1 (show fsC c + i < lnC c by unfold lnC; omega)
 have p70 := late70 h hi;have hsl := h.x1 _ (zkr hi);have p68 := zuo (sgA c.sg i).on hsl.1 (lnC c);have p68b := zuo (sgA c.sg i).off hsl.2 (lnC c);have p71 := zero71 (sgA c.sg i).off;rw [zhv] at p68 p68b;have w2 : IntKind.wrap .i64 (((fsC c : Nat) : Int) + (i : Nat)) = ((fsC c + i : Nat) : Int) := by rw [zbb _ (by omega) (by omega)]; omega
 refine za6 env0_ok fn43 [(0, .agg (cC c)), (1, .int .i64 (i : Nat))] (y04 rfl) rfl fun w0 N0 => ?_;unfold ic43 sgE;unfold cC vsG at *;generalize nmE c (fsC c + i) = e1 at *;generalize ziu c i = lt at *;generalize sgA c.sg i = s at *;generalize zd7 s.on (lnC c) = e2 at *;generalize zd7 s.off (lnC c) = e3 at *;refine zbh ?_;refine zc2 env0_ok _ (hL2 p11 p42) (fun g => Nat.beq g 11 || Nat.beq g 42) rfl rfl rfl ?_;refine zbh ?_;rw [w2];refine zbh ?_;refine za4 rfl rfl rfl (fun h2 => ?_) fun h2 => ?_
 ·have h2 : ¬ e1 = 0 := by simpa using h2
  rw [if_pos h2];refine zbu ?_;exact uE
 have h2 : e1 = 0 := by simpa using h2
 rw [if_neg (by simpa using h2)];clear p42 h2;obtain ⟨nm, kd, on, off, dl, ini⟩ := s;dsimp only at *;by_cases c1 : kd < 0 \/ 3 <= kd
 ·rw [if_pos c1];refine zl6 ?_;refine za4 rfl rfl rfl (fun h3 => ?_) fun h3 => ?_
  ·refine zc9 ?_;exact uE
  ·refine zbu ?_;refine za4 rfl rfl rfl (fun h4 => ?_) fun h4 => ?_
   ·refine zbu ?_;exact uE
   ·have h3 : ¬ kd < 0 := of_decide_eq_false h3;have h4 : ¬ kd >= 3 := of_decide_eq_false h4;omega
 rw [if_neg c1];have hk3 : kd = 0 \/ kd = 1 \/ kd = 2 := by omega
 rcases hk3 with rfl | rfl | rfl;all_goals
  refine zb4 ?_;refine zc2 env0_ok _ (hL2 p69 p68) (fun g => Nat.beq g 69 || Nat.beq g 68) rfl rfl rfl ?_;refine zbh ?_;refine za4 rfl rfl rfl (fun h2 => ?_) fun h2 => ?_
  ·have h2 : ¬ e2 = 0 := by simpa using h2
   rw [if_pos h2];refine zbu ?_;exact uE
  have h2 : e2 = 0 := by simpa using h2
  rw [if_neg (by simpa using h2)];clear p68 h2;refine zbh ?_
 ·rw [if_neg (fun h => by omega)];unfold sgT;generalize zxp off = zb at *;dsimp only;cases lt with
  | true =>
   refine zbu ?_;exact uE
  | false =>
   cases zb <;> cases ini
   all_goals
    repeat' first | refine zb5 ?_ | refine za8 rfl ?_ | refine zay ?_ | refine zau ?_ | refine zbd ?_ | refine zgi rfl ?_ | refine zfj rfl ?_ | refine zby ?_ | refine zaw ?_ | refine zgy rfl ?_ | refine znu rfl rfl ?_ | refine o_gt rfl ?_ | refine zan rfl ?_ | refine zb0 rfl rfl ?_ | refine zbf rfl rfl rfl rfl ?_ | refine zae rfl ?_ | refine zbz rfl rfl ?_ | refine zb8 rfl rfl ?_ | refine zto rfl rfl ?_ | refine zal rfl rfl (by assumption) noC ?_ | refine za4 rfl rfl rfl (fun h => ?_) fun h => ?_
    all_goals
     refine zaa ⟨.inr rfl, _, rfl, ?_⟩;show AV.int .i64 _ = AV.int .i64 _;refine congrArg (AV.int .i64) ?_
     simp_all
 ·refine zc2 env0_ok _ (hL2 p69 p68b) (fun g => Nat.beq g 69 || Nat.beq g 68) rfl rfl rfl ?_;refine zbh ?_;refine za4 rfl rfl rfl (fun h2 => ?_) fun h2 => ?_
  ·have h2 : ¬ e3 = 0 := by simpa using h2
   rw [if_pos ⟨rfl, h2⟩];refine zbu ?_;exact uE
  have h2 : e3 = 0 := by simpa using h2
  rw [if_neg (fun h => h.2 h2)];clear p68b h2;unfold sgT;dsimp only;repeat' first | refine zb5 ?_ | refine za8 rfl ?_ | refine zay ?_ | refine zau ?_ | refine zbd ?_ | refine zgi rfl ?_ | refine zfj rfl ?_ | refine zby ?_ | refine zaw ?_ | refine zgy rfl ?_ | refine znu rfl rfl ?_ | refine o_gt rfl ?_ | refine zan rfl ?_ | refine zb0 rfl rfl ?_ | refine zae rfl ?_ | refine zbz rfl rfl ?_ | refine zb8 rfl rfl ?_ | refine zto rfl rfl ?_ | refine zfg rfl rfl rfl ?_ | refine za4 rfl rfl rfl (fun h => ?_) fun h => ?_
  all_goals
   refine zaa ⟨.inr rfl, _, rfl, ?_⟩;show AV.int .i64 _ = AV.int .i64 _;refine congrArg (AV.int .i64) ?_
   simp_all
 ·rw [if_neg (fun h => by omega)];unfold sgT;generalize zxp off = zb at *;dsimp only;cases zb <;> cases ini
  all_goals
   repeat' first | refine zb5 ?_ | refine za8 rfl ?_ | refine zay ?_ | refine zau ?_ | refine zbd ?_ | refine zgi rfl ?_ | refine zfj rfl ?_ | refine zby ?_ | refine zaw ?_ | refine zgy rfl ?_ | refine znu rfl rfl ?_ | refine o_gt rfl ?_ | refine zan rfl ?_ | refine zb0 rfl rfl ?_ | refine zbf rfl rfl rfl rfl ?_ | refine zae rfl ?_ | refine zbz rfl rfl ?_ | refine zb8 rfl rfl ?_ | refine zto rfl rfl ?_ | refine zal rfl rfl (by assumption) noC ?_ | refine za4 rfl rfl rfl (fun h => ?_) fun h => ?_
   all_goals
    refine zaa ⟨.inr rfl, _, rfl, ?_⟩;show AV.int .i64 _ = AV.int .i64 _;refine congrArg (AV.int .i64) ?_;simp only [decide_eq_true_eq, decide_eq_false_iff_not, gt_iff_lt] at *;first
    | (rw [if_neg (by simp), if_pos (by simp; omega)])
    | (rw [if_neg (by simp), if_neg (by simp; omega)]; rfl)
end Go.Proofs.YtdolbghhcijonaaGreat
