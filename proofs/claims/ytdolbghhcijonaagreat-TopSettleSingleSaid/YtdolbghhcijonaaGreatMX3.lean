/-
  R10, R11, R12, R13, R14, R15, R16, R17 in one text.; LISTS OF NUMBERS AS THE MACHINE HOLDS THEM; LISTS THAT ARE GONE THROUGH.; CONTROLS AND STATES AS THE MACHINE HOLDS THEM.; THE LINES OF A CONTROL, COUNTED AND NAMED.; THE NAMES OF LINES.; NAMES.; THE VARIABLES THAT OCCUR, AS THE REFERENCE LISTS THEM.
-/
import Derived.Test.YtdolbghhcijonaaGreatMX2
namespace Go.Proofs.YtdolbghhcijonaaGreat
open Go Go.Am
set_option maxRecDepth 100000
mutual
def szX : Ex -> Int
 | .nd _ _ args => 1 + szL args
def szL : List Ex -> Int
 | [] => 0
 | y :: ys => szX y + szL ys
end
mutual
theorem zla : ∀ x : Ex, 1 <= szX x
 | .nd op ix args => by
  rw [szX];have := zef args;omega
theorem zef : ∀ l : List Ex, 0 <= szL l
 | [] => by rw [szL]; exact y2b _
 | y :: ys => by
  rw [szL];have := zla y;have := zef ys;omega
end
theorem zma : ∀ l : List Ex, (l.length : Int) <= szL l
 | [] => by rw [szL]; exact y2b _
 | y :: ys => by
  rw [szL, y1e];have := zla y;have := zma ys;omega
mutual
theorem zxe : ∀ x : Ex, szX x <= 256 -> Thin x
 | .nd op ix args => fun h => by
  rw [szX] at h;have := zma args;exact .nd (by omega) (zsu args (by omega))
theorem zsu : ∀ l : List Ex, szL l <= 256 -> ∀ y ∈ l, Thin y
 | [] => fun _ y hy => absurd hy y07
 | x :: xs => fun h y hy => by
  rw [szL] at h;have h1 := zla x;have h2 := zef xs;rcases y0d.1 hy with he | hm
  ·rw [he];exact zxe x (by omega)
  ·exact zsu xs (by omega) y hm
end
mutual
theorem cnt_eq (most : Int) (h : 0 <= most) : ∀ x : Ex, cnt most x = if szX x <= most then szX x else most + 1
 | .nd op ix args => by
  rw [cnt, szX];exact zv0 most h 1 (by omega) (by omega) args
theorem zv0 (most : Int) (h : 0 <= most) (n : Int) (h1 : 1 <= n) (h2 : n <= most + 1) : ∀ l : List Ex, zq5 most n l = if n + szL l <= most then n + szL l else most + 1
 | [] => by
  rw [zq5, szL];split <;> omega
 | y :: ys => by
  rw [zq5, szL];have hy := zla y;have hys := zef ys;split
  ·have e := cnt_eq (most - n) (by omega) y;have b := zlz (most - n) (by omega) y;rw [zv0 most h _ (by omega) (by omega) ys];split at e <;> rw [e] <;> (repeat' split) <;> omega
  ·rw [if_neg (by omega)];omega
end
theorem zm2 (m : Nat) (op ix : Int) (args : List Ex) : zek (m + 1) (.nd op ix args) = args.all (zek m) := by
 rw [zek];split
 ·rename_i h;subst h;cases args with
  | nil => rfl
  | cons a l => simp [zek]
 ·rfl
def zd8 (x : Ex) : Bool := decide (cnt 256 x <= 256) && zek 16 x
theorem zhm (x : Ex) : zd8 x = true ↔ szX x <= 256 /\ zek 16 x = true := by
 unfold zd8;rw [y0g, decide_eq_true_iff, cnt_eq 256 (by omega)];constructor
 ·intro ⟨a, b⟩;refine ⟨?_, b⟩;split at a <;> omega
 ·intro ⟨a, b⟩;exact ⟨by rw [if_pos a]; exact a, b⟩
mutual
theorem walkM : ∀ (x : Ex) (d n m : Int), 1 <= d -> d <= 17 -> 0 <= n -> n <= 256 ->
  if n + szX x <= 256 /\ zek (17 - d).toNat x = true then ∃ m', zg2 zi2 d x (n, m) = .inl (n + szX x, m') else zg2 zi2 d x (n, m) = .inr ()
 | .nd op ix args => fun d n m hd h17 h0 hn => by
  rw [zg2, szX];unfold zi2;have hs0 := zef args;by_cases hs : n + 1 > 256 \/ d > 16
  ·rw [if_pos hs, if_neg];intro ⟨a, b⟩;rcases hs with hs | hs
   ·omega
   ·rw [show (17 - d).toNat = 0 by omega] at b
    simp [zek] at b
  ·rw [if_neg hs, show (17 - d).toNat = (16 - d).toNat + 1 by omega, zm2, <- Int.add_assoc]
   exact walkLM args d (n + 1) (deepM m d) hd (by omega) (by omega) (by omega)
theorem walkLM : ∀ (l : List Ex) (d n m : Int), 1 <= d -> d <= 16 -> 0 <= n -> n <= 256 ->
  if n + szL l <= 256 /\ l.all (zek (16 - d).toNat) = true then ∃ m', zgx zi2 d l (n, m) = .inl (n + szL l, m') else zgx zi2 d l (n, m) = .inr ()
 | [] => fun d n m hd h16 h0 hn => by
  rw [szL, zgx, if_pos ⟨by omega, rfl⟩, Int.add_zero];exact ⟨m, rfl⟩
 | y :: ys => fun d n m hd h16 h0 hn => by
  have hy := walkM y (d + 1) n m (by omega) (by omega) h0 hn;rw [zgx, if_pos h16, szL];rw [show (17 - (d + 1)).toNat = (16 - d).toNat by omega] at hy
  have hp := zla y;have hq := zef ys;by_cases hc : n + szX y <= 256 /\ zek (16 - d).toNat y = true
  ·rw [if_pos hc] at hy;obtain ⟨m', hy⟩ := hy;rw [hy, y1h, hc.2, y1k, <- Int.add_assoc];exact walkLM ys d (n + szX y) m' hd h16 (by omega) hc.1
  ·rw [if_neg hc] at hy;rw [hy, if_neg];intro ⟨a, b⟩;rw [y1h, y0g] at b;exact hc ⟨by omega, b.1⟩
end
mutual
theorem walkC (z : Int) : ∀ (x : Ex) (d : Int), 1 <= d -> d <= 17 -> zek (17 - d).toNat x = true -> zg2 (zps z) d x () = if nds z x = 0 then .inl () else .inr (nds z x)
 | .nd op ix args => fun d hd h17 hb => by
  have h16 : d <= 16 := by
   by_cases h : d <= 16
   ·exact h
   ·rw [show (17 - d).toNat = 0 by omega] at hb
    simp [zek] at hb
  rw [show (17 - d).toNat = (16 - d).toNat + 1 by omega, zm2] at hb
  rw [zg2, nds];unfold zps zwg;by_cases h : zg1 op ix args.length z = 0
  ·simp only [if_pos h];exact walkLC z args d hd h16 hb
  ·simp only [if_neg h]
theorem walkLC (z : Int) : ∀ (l : List Ex) (d : Int), 1 <= d -> d <= 16 -> l.all (zek (16 - d).toNat) = true -> zgx (zps z) d l () = if ztz z l = 0 then .inl () else .inr (ztz z l)
 | [] => fun d hd h16 hb => by rw [zgx, ztz, if_pos rfl]
 | y :: ys => fun d hd h16 hb => by
  rw [y1h, y0g] at hb;have hy := walkC z y (d + 1) (by omega) (by omega) (by rw [show (17 - (d + 1)).toNat = (16 - d).toNat by omega]; exact hb.1)
  rw [zgx, if_pos h16, hy, ztz];by_cases h : nds z y = 0
  ·simp only [if_pos h];exact walkLC z ys d hd h16 hb.2
  ·simp only [if_neg h]
end
def zcg (x : Ex) (n : Int) : Int := if n < 0 \/ n > 256 then 2 else if zd8 x = true then nds n x else 5
theorem zn8 (x : Ex) (n : Int) : zlx x n = zcg x n := by
 unfold zlx zcg;split
 ·rfl
 ·have hw := walkM x 1 0 0 (by omega) (by omega) (by omega) (by omega);rw [Int.zero_add, show ((17 : Int) - 1).toNat = 16 from rfl] at hw
  by_cases hl : zd8 x = true
  ·rw [if_pos ((zhm x).1 hl)] at hw;obtain ⟨m', hw⟩ := hw;rw [hw, if_pos hl];dsimp only;rw [walkC n x 1 (by omega) (by omega) ((zhm x).1 hl).2];by_cases h : nds n x = 0
   ·rw [if_pos h]; exact h.symm
   ·rw [if_neg h]
  ·rw [if_neg (fun h => hl ((zhm x).2 h))] at hw;rw [hw, if_neg hl]
-- pneumatic/pneumaticref05.Light
def ic62 : IC := sR [oM 1 (.box (.t 0)),
  oM 2 (.mov (.c (.bool false)))]
 (sR [oL 3 3 1,
  oM 4 (.call (.c (.fn 87 [] [])) [(.t 3), (cI 256)]),
  oM 5 (.bin .leq (.t 4) (cI 256)),
  oT 6 5,
  ⟨(some 7), .load (some 3) (.t 1), some (6, true)⟩,
  ⟨(some 8), .call (.c (.fn 88 [] [])) [(.t 7), (cI 16)], some (6, true)⟩,
  oM 9 (.pick (.t 6) (.t 8) (.c (.bool false))),
  oT 2 9]
 (.ret))
theorem fn62 : env0.fn 62 = some ⟨10, ic62, [.t 2]⟩ := by kernel_rfl
theorem zqk (x : Ex) (hs : Slim x) : PF Tryz.prog 62 [.agg (cX x)] (.bool (zd8 x)) := by
 have h72 := count72 _ x 256 (y08 _) hs (by decide) (by decide);have h73 := deep73 16 x 16 rfl (by decide) hs;have hl : zd8 x = (decide (cnt 256 x <= 256) && zek 16 x) := rfl;rw [hl];obtain ⟨op, ix, args⟩ := x;refine za6 env0_ok fn62 [(0, .agg (cX (.nd op ix args)))] (by show 1 <= 10; decide) rfl fun w0 N0 => ?_
 unfold ic62;refine zp4 ?_;refine zak rfl rfl h72 (fun h => Bool.noConfusion (show false = true from h)) ?_
 refine za3 rfl rfl rfl (fun h1 => ?_) fun h1 => ?_
 ·rw [h1, y1k];refine ggc3 ?_;refine zak rfl rfl h73 noC ?_;refine ggc3 ?_;exact uE
 ·rw [h1, y25];refine zp5 ?_;exact uE
-- pneumatic/pneumaticref05.Check
def ic68 : IC := sR [oM 2 (.box (.t 0)),
  oM 4 (.mov (cI 0))]
 (.seq (sR [oT 5 1,
  oM 6 (.bin .lss (.t 5) (cI 0)),
  oT 7 6,
  ⟨(some 8), .mov (.t 1), some (7, false)⟩,
  ⟨(some 9), .bin .gtr (.t 8) (cI 256), some (7, false)⟩,
  oM 10 (.pick (.t 7) (.c (.bool true)) (.t 9))]
 (.cond (.t 10) (sR [oM 4 (.mov (cI 2))]
 (.ret))
 (.skip)))
 (.seq (sR [oL 11 3 2,
  oM 12 (.call (.c (.fn 62 [] [])) [(.t 11)]),
  oM 13 (.un .not (.t 12))]
 (.cond (.t 13) (sR [oM 4 (.mov (cI 5))]
 (.ret))
 (.skip)))
 (sR [oL 14 3 2,
  oT 15 1,
  oM 16 (.call (.c (.fn 102 [] [])) [(.t 14), (.t 15)]),
  oT 4 16]
 (.ret))))
theorem fn68 : env0.fn 68 = some ⟨17, ic68, [.t 4]⟩ := by kernel_rfl
theorem zuy (x : Ex) (hs : Slim x) (n : Int) : PF Tryz.prog 68 [.agg (cX x), .int .i64 n] (.int .i64 (zcg x n)) := by
 have h47 := zqk x hs;have h89 : zd8 x = true -> PF Tryz.prog 102 [.agg (cX x), .int .i64 n] (.int .i64 (nds n x)) := fun h => nodes89 n _ x (y08 _) (zxe x ((zhm x).1 h).1);obtain ⟨op, ix, args⟩ := x;refine za6 env0_ok fn68 [(0, .agg (cX (.nd op ix args))), (1, .int .i64 n)] (by show 2 <= 17; decide) rfl fun w0 N0 => ?_
 unfold ic68 zcg;refine ggc1 ?_;refine za3 rfl rfl rfl (fun h1 => ?_) fun h1 => ?_
 ·rw [if_pos (.inl (of_decide_eq_true h1))];refine zp5 ?_;exact uE
 refine ggc3 ?_;refine za3 rfl rfl rfl (fun h2 => ?_) fun h2 => ?_
 ·rw [if_pos (.inr (of_decide_eq_true h2))];refine zp5 ?_;exact uE
 rw [if_neg (fun h => h.elim (of_decide_eq_false h1) (of_decide_eq_false h2))];refine zp5 ?_;cases hl : zd8 (.nd op ix args) with
 | true =>
  rw [hl] at h47;rw [if_pos rfl];refine zak rfl rfl h47 noC ?_;refine zp5 ?_;refine zak rfl rfl (h89 hl) noC ?_;refine zvw ?_;exact uE
 | false =>
  rw [hl] at h47;rw [if_neg (by simp)];refine zak rfl rfl h47 noC ?_;refine zp5 ?_;exact uE
end Go.Proofs.YtdolbghhcijonaaGreat
namespace Go.Proofs.YtdolbghhcijonaaGreat
open Go Go.Am
mutual
def zae (v : List Bool) : Ex -> Bool
 | .nd op ix args => if op = 0 then ix == 1 else if op = 1 then v.getD ix.toNat false else if op = 2 then !(zdi v args).headD false else if op = 3 then (zdi v args).all id else (zdi v args).any id
def zdi (v : List Bool) : List Ex -> List Bool
 | [] => []
 | y :: ys => zae v y :: zdi v ys
end
theorem zfo (v : List Bool) : ∀ l : List Ex, zdi v l = l.map (zae v)
 | [] => by simp [zdi]
 | y :: ys => by simp [zdi, zfo v ys]
def vsB (v : List Bool) : AV := .vs (v.map fun b => [.bool b])
theorem zhq {n op ix : Int} {args : List Ex} (h : nds n (.nd op ix args) = 0) : zg1 op ix args.length n = 0 /\ ∀ y ∈ args, nds n y = 0 := by
 rw [nds] at h;split at h
 ·rename_i h1;refine ⟨h1, ?_⟩;clear h1
  induction args with
  | nil => exact fun _ hy => absurd hy y07
  | cons y ys ih =>
   rw [ztz] at h;split at h
   ·rename_i h2;intro z hz;rcases y0d.1 hz with rfl | hm
    ·exact h2
    ·exact ih h z hm
   ·rename_i h2; exact absurd h h2
 ·rename_i h1; exact absurd h h1
theorem zhs {op ix k n : Int} (h : zg1 op ix k n = 0) : 0 <= op /\ op < 5 /\ zm9 op <= k /\ k <= zlq op /\ 0 <= ix /\ ix <= zqo op n := by
 unfold zg1 at h;split at h
 ·exact absurd h (by decide)
 ·split at h
  ·exact absurd h (by decide)
  ·split at h
   ·exact absurd h (by decide)
   ·omega
theorem zxl (v : List Bool) (i : Nat) (h : i < v.length) : (v.map fun b => ([.bool b] : List AV))[i]? = some [.bool (v.getD i false)] := by
 rw [y0m, y0e h, y0k, y0e h];rfl
def zuu : IC := .seq (sR [oT 32 7,
  oF 33 2 2,
  oN 34 33,
  oM 35 (.len false (.t 34)),
  oM 36 (.bin .lss (.t 32) (.t 35))]
 (.cond (.t 36) (.skip)
 (.exit 1)))
 (.seq (.block 2 (sR [oF 39 2 2,
  oN 40 39,
  oT 41 7,
  oM 42 (.idxs 3 (.t 40) (.t 41)),
  oL 43 3 42,
  oT 44 1,
  oM 45 (.call (.c (.fn 89 [] [])) [(.t 43), (.t 44)]),
  oT 8 45]
 (.region [oT 46 5,
  oT 47 46,
  ⟨(some 48), .mov (.t 8), some (47, true)⟩,
  oM 49 (.pick (.t 47) (.t 48) (.c (.bool false))),
  oT 50 6,
  oT 51 50,
  ⟨(some 52), .mov (.t 8), some (51, false)⟩,
  oM 53 (.pick (.t 51) (.c (.bool true)) (.t 52)),
  oT 5 49,
  oT 6 53] none)))
 (.region [oT 37 7,
  oM 38 (.bin .add (.t 37) (cI 1)),
  oT 7 38] none))
-- pneumatic/pneumaticref05.Holds
def ic89 : IC := sR [oM 2 (.box (.t 0)),
  oM 4 (.mov (.c (.bool false)))]
 (.seq (sR [oF 9 0 2,
  oN 10 9]
 (.block 0 (sR [oM 12 (.bin .eql (.t 10) (cI 0)),
  oT 11 12]
 (.cond (.t 11) (sR [oF 13 1 2,
  oN 14 13,
  oM 15 (.bin .eql (.t 14) (cI 1)),
  oT 4 15]
 (.ret))
 (sR [oM 17 (.bin .eql (.t 10) (cI 1)),
  oT 16 17]
 (.cond (.t 16) (sR [oT 18 1,
  oF 19 1 2,
  oN 20 19,
  oM 21 (.idxs 1 (.t 18) (.t 20)),
  oN 22 21,
  oT 4 22]
 (.ret))
 (sR [oM 24 (.bin .eql (.t 10) (cI 2)),
  oT 23 24]
 (.cond (.t 23) (sR [oF 25 2 2,
  oN 26 25,
  oM 27 (.idxs 3 (.t 26) (cI 0)),
  oL 28 3 27,
  oT 29 1,
  oM 30 (.call (.c (.fn 89 [] [])) [(.t 28), (.t 29)]),
  oM 31 (.un .not (.t 30)),
  oT 4 31]
 (.ret))
 (.skip)))))))))
 (sR [oM 5 (.mov (.c (.bool true))),
  oM 6 (.mov (.c (.bool false)))]
 (.seq (sR [oM 7 (.mov (cI 0))]
 (.block 1 (.loop zuu)))
 (sR [oF 54 0 2,
  oN 55 54,
  oM 56 (.bin .eql (.t 55) (cI 3)),
  oT 57 56,
  ⟨(some 58), .mov (.t 5), some (57, true)⟩,
  oM 59 (.pick (.t 57) (.t 58) (.c (.bool false))),
  oT 60 59,
  ⟨(some 61), .faddr 0 (.t 2), some (60, false)⟩,
  ⟨(some 62), .load none (.t 61), some (60, false)⟩,
  ⟨(some 63), .bin .eql (.t 62) (cI 4), some (60, false)⟩,
  ⟨(some 64), .mov (.t 63), some (60, false)⟩,
  ⟨(some 65), .mov (.t 6), some (64, true)⟩,
  ⟨(some 66), .pick (.t 64) (.t 65) (.c (.bool false)), some (60, false)⟩,
  oM 67 (.pick (.t 60) (.c (.bool true)) (.t 66)),
  oT 4 67]
 (.ret)))))
theorem fn89 : env0.fn 89 = some ⟨68, ic89, [.t 4]⟩ := by kernel_rfl
set_option maxHeartbeats 4000000 in
theorem holds84 (v : List Bool) : ∀ (q : Nat) (x : Ex), SizeOf.sizeOf x <= q -> nds v.length x = 0 -> PF Tryz.prog 89 [.agg (cX x), vsB v] (.bool (zae v x)) := by
 intro q
 induction q with
 | zero => intro x hq; cases x; simp at hq
 | succ q ih =>
 intro x hq hs;obtain ⟨op, ix, args⟩ := x;obtain ⟨hn, hch⟩ := zhq hs;obtain ⟨o0, o5, kl, km, i0, im⟩ := zhs hn;have hlen : args.length <= 256 := by
  unfold zlq at km
  (repeat' split at km) <;> omega
 have hop : op = 0 \/ op = 1 \/ op = 2 \/ op = 3 \/ op = 4 := by omega
 have hd : zae v (.nd op ix args) = if op = 0 then ix == 1 else if op = 1 then v.getD ix.toNat false else if op = 2 then !(zdi v args).headD false else if op = 3 then (zdi v args).all id else (zdi v args).any id := by rw [zae]
 rw [hd];refine za6 env0_ok fn89 [(0, .agg (cX (.nd op ix args))), (1, vsB v)] (by show 2 <= 68; decide) rfl fun w0 N0 => ?_
 unfold ic89;rcases hop with rfl | rfl | rfl | rfl | rfl
 ·rw [if_pos rfl];refine zp5 ?_;refine za3 rfl rfl rfl (fun h1 => ?_) fun h1 => ?_
  ·rw [h1];refine zp4 ?_;exact uE
  ·rw [h1];refine zp4 ?_;exact uE
 ·rw [if_neg (by decide), if_pos rfl];refine zp5 ?_;have hi : ix.toNat < v.length := by
   simp [zqo] at im;omega
  refine zc8 rfl rfl i0 (zxl v _ hi) rfl ?_;refine zp4 ?_;exact uE
 ·rw [if_neg (by decide), if_neg (by decide), if_pos rfl];have h1 : args.length = 1 := by simp [zm9, zlq] at kl km; omega
  obtain ⟨y, rfl⟩ := List.length_eq_one_iff.1 h1;obtain ⟨yo, yi, ya⟩ := y;have hhd : (zdi v [.nd yo yi ya]).headD false = zae v (.nd yo yi ya) := by rw [zdi]; rfl
  rw [hhd];refine zp5 ?_;refine zc8 rfl rfl (y2b 0) (zej (l := [.nd yo yi ya]) (i := 0) (Nat.zero_lt_one)) rfl ?_;refine zp4 ?_;refine zak rfl rfl (ih (.nd yo yi ya) (by have := zh3 (op := 2) (ix := ix) (List.mem_singleton_self (Ex.nd yo yi ya)); omega) (hch _ (List.mem_singleton_self _))) noC ?_
  refine zp5 ?_;exact uE
 ·rw [if_neg (by decide), if_neg (by decide), if_neg (by decide), if_pos rfl, zfo];refine ggc3 ?_;refine zav (fun mm S => ∃ i a s, mm = args.length - i /\ i <= args.length /\ (a && ((args.drop i).map (zae v)).all id) = (args.map (zae v)).all id /\ (s || ((args.drop i).map (zae v)).any id) = (args.map (zae v)).any id /\
    S = st 68 [(1, vsB v), (2, .mptr 0 0 0), (5, .bool a), (6, .bool s), (7, .int .i64 (i : Nat))] [(0, 0, .cells (cX (.nd 3 ix args)))] 1 1) args.length
   skp ⟨0, true, false, rfl, y0q _, by rw [y1k]; rfl, by rw [Bool.false_or]; rfl, rfl⟩ ?_
  rintro mm S ⟨i, a, s, rfl, hi, hal, han, rfl⟩;unfold zuu;refine zp5 ?_;refine za3 rfl rfl rfl (fun h3 => ?_) fun h3 => ?_
  ·have hlt : i < args.length := by
    have := of_decide_eq_true h3;rw [zam] at this;omega
   have hdr : args.drop i = args[i] :: args.drop (i + 1) := y0t hlt;rw [hdr, y1a] at hal han;rw [y1h] at hal;rw [List.any_cons] at han;have hge := zej hlt;have hmem : args[i] ∈ args := y13 hlt;generalize args[i] = y at hal han hge hmem;obtain ⟨yo, yi, ya⟩ := y;refine zp4 ?_;refine zc8 rfl rfl (y0z i) hge rfl ?_;refine zp4 ?_;refine zak rfl rfl (ih (.nd yo yi ya) (by have := zh3 (op := 3) (ix := ix) hmem; omega) (hch _ hmem)) noC ?_
   generalize zae v (.nd yo yi ya) = r at hal han;cases a <;> cases s
   all_goals
    refine zvx ?_;rw [za9 i (by omega)];exact zad (show args.length - (i + 1) < args.length - i by omega) skp ⟨i + 1, _, _, rfl, hlt, by simpa using hal, by simpa using han, rfl⟩
  ·have hi2 : i = args.length := by
    have := of_decide_eq_false h3;rw [zam] at this;omega
   subst hi2;rw [y1m] at hal han;have hal : a = (args.map (zae v)).all id := by simpa using hal
   have han : s = (args.map (zae v)).any id := by simpa using han
   rw [<- hal];clear hal han;refine zvx ?_;refine zbp ?_;refine zvx ?_;cases a <;> cases s
   all_goals
    refine ggc6 ?_;exact uE
 ·rw [if_neg (by decide), if_neg (by decide), if_neg (by decide), if_neg (by decide), zfo];refine ggc3 ?_;refine zav (fun mm S => ∃ i a s, mm = args.length - i /\ i <= args.length /\ (a && ((args.drop i).map (zae v)).all id) = (args.map (zae v)).all id /\ (s || ((args.drop i).map (zae v)).any id) = (args.map (zae v)).any id /\
    S = st 68 [(1, vsB v), (2, .mptr 0 0 0), (5, .bool a), (6, .bool s), (7, .int .i64 (i : Nat))] [(0, 0, .cells (cX (.nd 4 ix args)))] 1 1) args.length
   skp ⟨0, true, false, rfl, y0q _, by rw [y1k]; rfl, by rw [Bool.false_or]; rfl, rfl⟩ ?_
  rintro mm S ⟨i, a, s, rfl, hi, hal, han, rfl⟩;unfold zuu;refine zp5 ?_;refine za3 rfl rfl rfl (fun h3 => ?_) fun h3 => ?_
  ·have hlt : i < args.length := by
    have := of_decide_eq_true h3;rw [zam] at this;omega
   have hdr : args.drop i = args[i] :: args.drop (i + 1) := y0t hlt;rw [hdr, y1a] at hal han;rw [y1h] at hal;rw [List.any_cons] at han;have hge := zej hlt;have hmem : args[i] ∈ args := y13 hlt;generalize args[i] = y at hal han hge hmem;obtain ⟨yo, yi, ya⟩ := y;refine zp4 ?_;refine zc8 rfl rfl (y0z i) hge rfl ?_;refine zp4 ?_;refine zak rfl rfl (ih (.nd yo yi ya) (by have := zh3 (op := 4) (ix := ix) hmem; omega) (hch _ hmem)) noC ?_
   generalize zae v (.nd yo yi ya) = r at hal han;cases a <;> cases s
   all_goals
    refine zvx ?_;rw [za9 i (by omega)];exact zad (show args.length - (i + 1) < args.length - i by omega) skp ⟨i + 1, _, _, rfl, hlt, by simpa using hal, by simpa using han, rfl⟩
  ·have hi2 : i = args.length := by
    have := of_decide_eq_false h3;rw [zam] at this;omega
   subst hi2;rw [y1m] at hal han;have hal : a = (args.map (zae v)).all id := by simpa using hal
   have han : s = (args.map (zae v)).any id := by simpa using han
   rw [<- han];clear hal han;refine zvx ?_;refine zbp ?_;refine zvx ?_;cases a <;> cases s
   all_goals
    exact uE
end Go.Proofs.YtdolbghhcijonaaGreat
namespace Go.Proofs.YtdolbghhcijonaaGreat
open Go Go.Am
def zur : IC := sR [oM 10 (.bin .lss (.t 9) (.t 8))]
 (.seq (.cond (.t 10) (.skip)
 (.exit 0))
 (.seq (.block 1 (sR [oM 11 (.idxs 3 (.t 7) (.t 9)),
  oL 12 3 11,
  oM 5 (.alloc [.int .i64 0, .int .i64 0, .nils]),
  ⟨none, .store 3 (.t 5) (.t 12), none⟩]
 (sR [oT 13 0,
  oL 14 3 5,
  oN 15 2,
  oM 16 (.call (.c (.fn 86 [] [])) [(.t 14), (.t 15)]),
  oM 17 (.call (.t 13) [(.t 16)]),
  oM 18 (.un .not (.t 17))]
 (.cond (.t 18) (.ret)
 (.skip)))))
 (.region [oM 19 (.bin .add (.t 9) (cI 1)),
  oT 9 19] none)))
-- pneumatic/boolexp.eval$1
def ic119 : IC := sR [oF 6 2 1,
  oN 7 6,
  oM 8 (.len false (.t 7)),
  oM 9 (.mov (cI 0))]
 (.block 0 (.loop zur))
theorem fn119 : env0.fn 119 = some ⟨20, ic119, []⟩ := by kernel_rfl
theorem every111 : PF Tryz.prog 135 [.bool false] (.fn 139 [] [.vptr [.bool false]]) := zni false
section
variable {σ τ : Type} {step : σ -> Bool -> σ ⊕ τ} {M : Nat -> Prop} {I : σ -> HS -> Prop} {J : τ -> HS -> Prop}
def znl (step : σ -> Bool -> σ ⊕ τ) : List Bool -> σ -> σ ⊕ τ
 | [], s => .inl s
 | b :: l, s => match step s b with
  | .inl s' => znl step l s'
  | .inr t => .inr t
set_option maxHeartbeats 2000000 in
theorem seq110 {w0 : World} {N0 id sp : Nat} (v : List Bool) (op ix : Int) (args : List Ex) (hlen : args.length <= 256) (hev : ∀ y ∈ args, PF Tryz.prog 86 [.agg (cX y), vsB v] (.bool (zae v y))) (hloc : Local M I) (hy : ∀ s b H, I s H -> CT Tryz.prog w0 N0 (.yield id sp) [.bool b] H (Left M I J H (step s b))) (H : HS) (s : σ) (hI : I s H) :
  FT Tryz.prog w0 N0 119 [.yield id sp, .vptr (cX (.nd op ix args)), .vptr [vsB v]] H fun _ H' => Keep M H H' /\ match znl step (args.map (zae v)) s with
   | .inl s' => I s' H'
   | .inr t => J t H' := by
 refine zbr env0_ok fn119 [(0, .yield id sp), (1, .vptr (cX (.nd op ix args))), (2, .vptr [vsB v])] (by show 3 <= 20; decide) rfl ?_
 unfold ic119;refine ggc6 ?_;refine zav (fun m S => ∃ i s' H', m = args.length - i /\ i <= args.length /\ znl step (args.map (zae v)) s = znl step ((args.drop i).map (zae v)) s' /\ I s' H' /\ Keep M H H' /\
   S = st 20 [(0, .yield id sp), (2, .vptr [vsB v]), (7, .vs (cXs args)), (8, .int .i64 (cXs args).length), (9, .int .i64 (i : Nat))] H'.heap H'.next H'.clk) args.length
  skp ⟨0, s, H, rfl, y0q _, rfl, hI, Keep.refl M H, rfl⟩ ?_
 rintro m S ⟨i, s', H', rfl, hi, hwl, hI', hK', rfl⟩;unfold zur;refine zvw ?_;refine za3 rfl rfl rfl (fun h1 => ?_) fun h1 => ?_
 ·have hlt : i < args.length := by
   have := of_decide_eq_true h1;rw [zam] at this;omega
  have hd : args.drop i = args[i] :: args.drop (i + 1) := y0t hlt;rw [hd, y1a] at hwl;have hge := zej hlt;have hmem : args[i] ∈ args := y13 hlt;generalize args[i] = y at hwl hge hmem;have hevy := hev y hmem;obtain ⟨yo, yi, ya⟩ := y;refine zp4 ?_;refine zc8 rfl rfl (y0z i) hge rfl ?_;refine ggc6 ?_;refine zaj rfl rfl rfl rfl za4 rfl rfl ?_;rw [zbz];refine zvw ?_;refine zb9 rfl za4 (y09 _) rfl rfl ?_;repeat (first | refine zb0 rfl rfl ?_)
  refine zak rfl rfl hevy noC ?_;refine zjn _ rfl rfl (hy s' (zae v (.nd yo yi ya)) ⟨_, _, _⟩ (hloc.new hI' _ _)) (fun _ _ _ _ hm => absurd hm y07) fun v2 H3 hF3 => ?_;obtain ⟨hK3, hF3⟩ := hF3;have hK4 : Keep M H H3 := hK'.trans ((Keep.new M H' _).trans hK3);cases hst : step s' (zae v (.nd yo yi ya)) with
  | inr t =>
   rw [hst] at hF3;obtain ⟨rfl, hJ⟩ := hF3;refine zp5 ?_;refine zgi ?_;repeat (first | refine zbs ?_)
   refine zab ⟨.inr rfl, _, rfl, hK4, ?_⟩;simp only [hwl, znl, hst];exact hJ
  | inl s2 =>
   rw [hst] at hF3;obtain ⟨rfl, hI2⟩ := hF3;refine zvx ?_;rw [za9 i (by omega)];exact zad (show args.length - (i + 1) < args.length - i by omega) skp ⟨i + 1, s2, H3, rfl, hlt, by rw [hwl]; simp only [znl, hst], hI2, hK4, rfl⟩
 ·have hi2 : i = args.length := by
   have := of_decide_eq_false h1;rw [zam] at this;omega
  refine zvx ?_;refine zbp ?_;repeat (first | refine zer ?_)
  refine zab ⟨.inl rfl, _, rfl, hK', ?_⟩;subst hi2;rw [y1m] at hwl;simp only [hwl, List.map_nil, znl];exact hI'
end
noncomputable def zt3 : Code := match env0.fn 139 with
 | some i => ((zd3 i.ic).headD (.skip, .skip)).1
 | none => .skip
noncomputable def zt5 : Code := match env0.fn 139 with
 | some i => ((zd3 i.ic).headD (.skip, .skip)).2
 | none => .skip
def zul : IC := .region [oT 4 6] none
def zq0 : IC := .block 1 (sR [oT 7 4,
  oN 8 1,
  oM 9 (.eqb true (.t 7) (.t 8))]
 (.cond (.t 9) (sR [⟨none, .store 1 (.t 3) (.c (.bool false)), none⟩]
 (.ret))
 (.skip)))
-- pneumatic/boolexp.every$1
noncomputable def ic139 : IC := sR [oM 3 (.alloc [.bool false])]
 (.seq (sR [oT 5 0]
 (.block 0 (.rangeFunc (.t 5) [6] zt3 zt5 zul zq0)))
 (sR [⟨none, .store 1 (.t 3) (.c (.bool true)), none⟩]
 (.ret)))
theorem fn139 : env0.fn 139 = some ⟨10, ic139, [.cell 3 none]⟩ := by kernel_rfl
def stepE (b : Bool) (_ : Unit) (r : Bool) : Unit ⊕ Unit := if r = b then .inl () else .inr ()
theorem foldE (b : Bool) : ∀ l : List Bool, znl (stepE b) l () = if l.all (· == b) = true then .inl () else .inr ()
 | [] => rfl
 | r :: l => by
  rw [znl, y1h];unfold stepE;cases r <;> cases b <;> first | exact foldE _ l | rfl
structure I115 (ltm : List (Nat × AV)) (_ : Unit) (H : HS) : Prop where
 nx : 3 <= H.next
 h2 : Am.look 2 H.heap = some (2, .loop .ready none 10 (zet ltm) [6] zt3 zt5 (1, 1))
 h1 : Am.look 1 H.heap = some (1, .deferred)
 h0 : Am.look 0 H.heap = some (0, .cells [.bool false])
structure J115 (_ : Unit) (H : HS) : Prop where
 nx : 3 <= H.next
 h2 : ∃ tm, Am.look 2 H.heap = some (2, .loop .done (some .ret) 10 tm [6] zt3 zt5 (1, 1))
 h1 : Am.look 1 H.heap = some (1, .deferred)
 h0 : Am.look 0 H.heap = some (0, .cells [.bool false])
theorem local115 (ltm : List (Nat × AV)) : Local (fun i => i < 3) (I115 ltm) :=
 ⟨fun s H h i hi => y0a hi h.nx, fun s H H' h hn hl =>
  ⟨y0s h.nx hn, (hl 2 (by decide)).trans h.h2, (hl 1 (by decide)).trans h.h1, (hl 0 (by decide)).trans h.h0⟩⟩
set_option maxHeartbeats 2000000 in
theorem yield115 {w0 : World} {N0 : Nat} (ltm : List (Nat × AV)) (b : Bool) (g1 : zas (.t 1) ltm = some (.vptr [.bool b])) (g3 : zas (.t 3) ltm = some (.mptr 0 0 0)) (ha : Com Tryz.prog zt3 zul) (hb : Com Tryz.prog zt5 zq0) (s : Unit) (r : Bool) (H : HS) (h : I115 ltm s H) :
  CT Tryz.prog w0 N0 (.yield 2 2) [.bool r] H (Left (fun i => i < 3) (I115 ltm) J115 H (stepE b s r)) := by
 obtain ⟨nx, h2, h1, h0⟩ := h;refine zrm (l0 := (6, .bool r) :: ltm) h2 ha hb rfl (by decide) rfl ?_;unfold zul;refine zvw ?_;refine zab ⟨rfl, _, rfl, ?_⟩;unfold zq0;refine ggc1 ?_;refine zb0 g1 rfl ?_;cases r <;> cases b
 all_goals refine ggc6 ?_
 all_goals first
  | (
    refine zaj (sp := 0) (cs := [.bool false]) g3 rfl rfl rfl (by rw [za0, if_neg (by decide)]; exact h0) rfl rfl ?_;refine zp4 ?_;refine zab ⟨10, zet ltm, [6], zt3, zt5, (1, 1), ?_, some .ret, rfl, ⟨y08 _, y08 _, fun i hi hj => ?_⟩, ?_⟩
    ·dsimp only [st];rw [za0, if_neg (by decide), za0, if_pos rfl]
    ·dsimp only [st];rw [za0, if_neg (by omega), za0, if_neg (by omega), za0, if_neg (by omega)]
    ·refine ⟨rfl, nx, ⟨zet ltm, ?_⟩, ?_, ?_⟩
     ·dsimp only [st];rw [za0, if_pos rfl]; rfl
     ·dsimp only [st];rw [za0, if_neg (by decide), za0, if_neg (by decide), za0, if_neg (by decide)]; exact h1
     ·dsimp only [st];rw [za0, if_neg (by decide), za0, if_pos rfl]; rfl)
  | (
    refine zab ⟨10, zet ltm, [6], zt3, zt5, (1, 1), ?_, none, rfl, ⟨y08 _, y08 _, fun i hi hj => ?_⟩, ?_⟩
    ·dsimp only [st];rw [za0, if_pos rfl]
    ·dsimp only [st];rw [za0, if_neg (by omega), za0, if_neg (by omega)]
    ·refine ⟨rfl, nx, ?_, ?_, ?_⟩
     ·dsimp only [st];rw [za0, if_pos rfl]; rfl
     ·dsimp only [st];rw [za0, if_neg (by decide), za0, if_neg (by decide)]; exact h1
     ·dsimp only [st];rw [za0, if_neg (by decide), za0, if_neg (by decide)]; exact h0)
set_option maxHeartbeats 2000000 in
theorem znh (b : Bool) (v : List Bool) (op ix : Int) (args : List Ex) (hlen : args.length <= 256) (hev : ∀ y ∈ args, PF Tryz.prog 86 [.agg (cX y), vsB v] (.bool (zae v y))) :
  PF Tryz.prog 139 [.fn 119 [] [.vptr (cX (.nd op ix args)), .vptr [vsB v]], .vptr [.bool b]] (.bool ((args.map (zae v)).all (· == b))) := by
 refine za6 env0_ok fn139 [(0, .fn 119 [] [.vptr (cX (.nd op ix args)), .vptr [vsB v]]), (1, .vptr [.bool b])] (by show 2 <= 10; decide) rfl fun w0 N0 => ?_
 unfold ic139;refine ggc6 ?_;refine zr3 (.inl rfl) rfl fun ha hb => (seq110 v op ix args hlen hev (local115 _) (fun s r H h => yield115 _ b rfl rfl ha hb s r H h) ⟨_, _, _⟩ () ⟨y08 _, rfl, rfl, rfl⟩).mono fun v2 H2 hF => ?_;obtain ⟨hK, hF⟩ := hF;rw [foldE] at hF;cases hall : (args.map (zae v)).all (· == b) with
 | true =>
  rw [hall, if_pos rfl] at hF;obtain ⟨nx, h2, h1, h0⟩ := hF;refine ⟨_, _, .normal, _, _, _, _, _, _, h2, by simp, rfl, fun z hz => ?_, ?_⟩
  ·obtain rfl := y0j.1 hz;rw [zaa, if_neg (by decide)]; exact h1
  ·refine ggc3 ?_;refine zaj (sp := 0) (cs := [.bool false]) rfl rfl rfl rfl (by rw [zaa, if_neg (by decide)]; exact h0) rfl rfl ?_;refine zvw ?_;refine zab ⟨.inr rfl, .bool true, zhx (zc3 3) (zc5 (sp := 0) (cs := [.bool true]) ?_ ?_), rfl⟩
   ·show Am.look 0 (zbq 1 (zau 0 _ (zbq 2 H2.heap))) = _;rw [zaa, if_neg (by decide), za0, if_pos rfl]; rfl
   ·show 0 < H2.next; omega
 | false =>
  rw [hall, if_neg (by simp)] at hF;obtain ⟨nx, ⟨tm, h2⟩, h1, h0⟩ := hF;refine ⟨_, _, .ret, _, _, _, _, _, _, h2, by simp, rfl, fun z hz => ?_, ?_⟩
  ·obtain rfl := y0j.1 hz;rw [zaa, if_neg (by decide)]; exact h1
  ·refine zp4 ?_;refine zab ⟨.inr rfl, .bool false, zhx (zc3 3) (zc5 (sp := 0) (cs := [.bool false]) ?_ ?_), rfl⟩
   ·show Am.look 0 (zbq 1 (zbq 2 H2.heap)) = _;rw [zaa, if_neg (by decide), zaa, if_neg (by decide)]; exact h0
   ·show 0 < H2.next; omega
-- pneumatic/boolexp.shapes$1
def ic136 : IC := sR [oM 2 (.mov (.c (.bool false)))]
 (sR [oM 3 (.call (.c (.fn 135 [] [])) [(.c (.bool false))]),
  oT 4 0,
  oM 5 (.call (.t 3) [(.t 4)]),
  oM 6 (.un .not (.t 5)),
  oT 2 6]
 (.ret))
theorem fn136 : env0.fn 136 = some ⟨7, ic136, [.t 2]⟩ := by kernel_rfl
theorem some112 (v : List Bool) (op ix : Int) (args : List Ex) (hlen : args.length <= 256) (hev : ∀ y ∈ args, PF Tryz.prog 86 [.agg (cX y), vsB v] (.bool (zae v y))) :
  PF Tryz.prog 136 [.fn 119 [] [.vptr (cX (.nd op ix args)), .vptr [vsB v]]] (.bool (!(args.map (zae v)).all (· == false))) := by
 refine za6 env0_ok fn136 [(0, .fn 119 [] [.vptr (cX (.nd op ix args)), .vptr [vsB v]])] (by show 1 <= 7; decide) rfl fun w0 N0 => ?_
 unfold ic136;refine zvw ?_;refine zak rfl rfl every111 noC ?_;repeat (first | refine zan rfl ?_)
 refine zd5 rfl rfl rfl (znh false v op ix args hlen hev) noC ?_;refine zp5 ?_;exact uE
end Go.Proofs.YtdolbghhcijonaaGreat
namespace Go.Proofs.YtdolbghhcijonaaGreat
open Go Go.Am
-- pneumatic/boolexp.eval
def ic86 : IC := sR [oM 2 (.box (.t 0)),
  oM 3 (.box (.t 1)),
  oM 4 (.mov (.c (.bool false)))]
 (.seq (sR [oF 5 0 2,
  oN 6 5]
 (.block 0 (sR [oM 8 (.bin .eql (.t 6) (cI 0)),
  oT 7 8]
 (.cond (.t 7) (sR [oF 9 1 2,
  oN 10 9,
  oM 11 (.bin .eql (.t 10) (cI 1)),
  oT 4 11]
 (.ret))
 (sR [oM 13 (.bin .eql (.t 6) (cI 1)),
  oT 12 13]
 (.cond (.t 12) (sR [oN 14 3,
  oF 15 1 2,
  oN 16 15,
  oM 17 (.idxs 1 (.t 14) (.t 16)),
  oN 18 17,
  oT 4 18]
 (.ret))
 (.skip)))))))
 (.seq (.region [oM 19 (.call (.c (.fn 118 [] [])) []),
  oF 20 0 2,
  oN 21 20,
  oM 22 (.idxagg 5 3 true (.t 19) (.t 21)),
  oM 23 (.field 2 none (.t 22)),
  oM 24 (.mkfn 119 [] [(.t 2), (.t 3)]),
  oM 25 (.call (.t 23) [(.t 24)]),
  oT 4 25] (some [[], [], [1], [0, 2], [3], [], [4, 5, 0], [6, 6, 0, 1, 2, 3, 4, 5, 6]]))
 (.ret)))
theorem fn86 : env0.fn 86 = some ⟨26, ic86, [.t 4]⟩ := by kernel_rfl
theorem zt0 (a : Bool) : ([a].all (· == false)) = !a := by cases a <;> rfl
theorem all_true (l : List Bool) : l.all (· == true) = l.all id := by
 induction l with
 | nil => rfl
 | cons a l ih => rw [y1h, y1h, ih]; cases a <;> rfl
theorem zuc (l : List Bool) : (!l.all (· == false)) = l.any id := by
 induction l with
 | nil => rfl
 | cons a l ih => rw [y1h, List.any_cons, <- ih]; cases a <;> simp
set_option maxHeartbeats 4000000 in
theorem eval100 (v : List Bool) : ∀ (q : Nat) (x : Ex), SizeOf.sizeOf x <= q -> nds v.length x = 0 -> PF Tryz.prog 86 [.agg (cX x), vsB v] (.bool (zae v x)) := by
 intro q
 induction q with
 | zero => intro x hq; cases x; simp at hq
 | succ q ih =>
 intro x hq hs;obtain ⟨op, ix, args⟩ := x;obtain ⟨hn, hch⟩ := zhq hs;obtain ⟨o0, o5, kl, km, i0, im⟩ := zhs hn;have hlen : args.length <= 256 := by
  unfold zlq at km
  (repeat' split at km) <;> omega
 have hev : ∀ y ∈ args, PF Tryz.prog 86 [.agg (cX y), vsB v] (.bool (zae v y)) := fun y hy => ih y (by have := zh3 (op := op) (ix := ix) hy; omega) (hch y hy)
 have hop : op = 0 \/ op = 1 \/ op = 2 \/ op = 3 \/ op = 4 := by omega
 have hd : zae v (.nd op ix args) = if op = 0 then ix == 1 else if op = 1 then v.getD ix.toNat false else if op = 2 then !(zdi v args).headD false else if op = 3 then (zdi v args).all id else (zdi v args).any id := by rw [zae]
 rw [hd];refine za6 env0_ok fn86 [(0, .agg (cX (.nd op ix args))), (1, vsB v)] (by show 2 <= 26; decide) rfl fun w0 N0 => ?_
 unfold ic86;rcases hop with rfl | rfl | rfl | rfl | rfl
 ·rw [if_pos rfl];refine zp5 ?_;refine za3 rfl rfl rfl (fun h1 => ?_) fun h1 => ?_
  ·rw [h1];refine zp4 ?_;exact uE
  ·rw [h1];refine zp4 ?_;exact uE
 ·rw [if_neg (by decide), if_pos rfl];refine zp5 ?_;have hi : ix.toNat < v.length := by
   simp [zqo] at im;omega
  refine zc8 rfl rfl i0 (zxl v _ hi) rfl ?_;refine zp4 ?_;exact uE
 ·rw [if_neg (by decide), if_neg (by decide), if_pos rfl];have h1 : args.length = 1 := by simp [zm9, zlq] at kl km; omega
  have heq : (args.map (zae v)).all (· == false) = !(zdi v args).headD false := by
   obtain ⟨y, rfl⟩ := List.length_eq_one_iff.1 h1;rw [zdi, zdi, y1a, List.map_nil, zt0];rfl
  refine ggc3 ?_;refine zc2 env0_ok [(118, [], zft), (139, [.fn 119 [] [.vptr (cX (.nd 2 ix args)), .vptr [vsB v]], .vptr [.bool false]], .bool ((args.map (zae v)).all (· == false)))] (fun x hx => by rcases y0d.1 hx with rfl | hx; exact zi1; obtain rfl := y0j.1 hx; exact znh false v 2 ix args hlen hev) (fun f => Nat.beq f 118) rfl rfl rfl ?_;refine zak rfl rfl zap noC ?_;unfold zft;refine zvx ?_;refine zd5 rfl rfl rfl (zc7 (by decide) zap) (fun _ => rfl) ?_;refine zvw ?_;refine zab ⟨.inr rfl, _, rfl, ?_⟩;show AV.bool _ = AV.bool _;exact congrArg AV.bool heq
 ·rw [if_neg (by decide), if_neg (by decide), if_neg (by decide), if_pos rfl, zfo];have heq : (args.map (zae v)).all (· == true) = (args.map (zae v)).all id := all_true _;refine ggc3 ?_;refine zc2 env0_ok [(118, [], zft), (139, [.fn 119 [] [.vptr (cX (.nd 3 ix args)), .vptr [vsB v]], .vptr [.bool true]], .bool ((args.map (zae v)).all (· == true)))] (fun x hx => by rcases y0d.1 hx with rfl | hx; exact zi1; obtain rfl := y0j.1 hx; exact znh true v 3 ix args hlen hev) (fun f => Nat.beq f 118) rfl rfl rfl ?_;refine zak rfl rfl zap noC ?_;unfold zft;refine zvx ?_;refine zd5 rfl rfl rfl (zc7 (by decide) zap) (fun _ => rfl) ?_;refine zvw ?_;refine zab ⟨.inr rfl, _, rfl, ?_⟩;show AV.bool _ = AV.bool _;exact congrArg AV.bool heq
 ·rw [if_neg (by decide), if_neg (by decide), if_neg (by decide), if_neg (by decide), zfo];have heq : (!(args.map (zae v)).all (· == false)) = (args.map (zae v)).any id := zuc _;refine ggc3 ?_;refine zc2 env0_ok [(118, [], zft), (136, [.fn 119 [] [.vptr (cX (.nd 4 ix args)), .vptr [vsB v]]], .bool (!(args.map (zae v)).all (· == false)))] (fun x hx => by rcases y0d.1 hx with rfl | hx; exact zi1; obtain rfl := y0j.1 hx; exact some112 v 4 ix args hlen hev) (fun f => Nat.beq f 118) rfl rfl rfl ?_;refine zak rfl rfl zap noC ?_;unfold zft;refine zvx ?_;refine zd5 rfl rfl rfl (zc7 (by decide) zap) (fun _ => rfl) ?_;refine zvw ?_;refine zab ⟨.inr rfl, _, rfl, ?_⟩;show AV.bool _ = AV.bool _;exact congrArg AV.bool heq
-- pneumatic/boolexp.Eval
def ic61 : IC := sR [oM 2 (.box (.t 0)),
  oM 4 (.mov (.c (.bool false))),
  oM 5 (.mov (cI 0))]
 (.seq (sR [oL 7 3 2,
  oT 8 1,
  oM 9 (.len false (.t 8)),
  oM 10 (.call (.c (.fn 85 [] [])) [(.t 7), (.t 9)]),
  oT 6 10]
 (sR [oT 11 6,
  oM 12 (.bin .neq (.t 11) (cI 0))]
 (.cond (.t 12) (sR [oT 13 6,
  oM 4 (.mov (.c (.bool false))),
  oT 5 13]
 (.ret))
 (.skip))))
 (sR [oL 14 3 2,
  oT 15 1,
  oM 16 (.call (.c (.fn 86 [] [])) [(.t 14), (.t 15)]),
  oT 4 16,
  oM 5 (.mov (cI 0))]
 (.ret)))
theorem fn61 : env0.fn 61 = some ⟨17, ic61, [.t 4, .t 5]⟩ := by kernel_rfl
def evalV (x : Ex) (v : List Bool) : AV := if zcg x v.length = 0 then .tup [.bool (zae v x), .int .i64 0] else .tup [.bool false, .int .i64 (zcg x v.length)]
theorem zhr {x : Ex} {n : Int} (h : zcg x n = 0) : nds n x = 0 := by
 unfold zcg at h;split at h
 ·exact absurd h (by decide)
 ·split at h
  ·exact h
  ·exact absurd h (by decide)
theorem eval81 (x : Ex) (hs : Slim x) (v : List Bool) : PF Tryz.prog 61 [.agg (cX x), vsB v] (evalV x v) := by
 have h59 := zq3 x hs v.length;rw [zn8] at h59;have h100 : zcg x v.length = 0 -> PF Tryz.prog 86 [.agg (cX x), vsB v] (.bool (zae v x)) := fun h => eval100 v _ x (y08 _) (zhr h);have hl : ((v.map fun b => ([.bool b] : List AV)).length : Int) = v.length := by rw [y06]
 obtain ⟨op, ix, args⟩ := x;refine za6 env0_ok fn61 [(0, .agg (cX (.nd op ix args))), (1, vsB v)] (by show 2 <= 17; decide) rfl fun w0 N0 => ?_
 unfold ic61 evalV;refine zp5 ?_;refine zak rfl (by rw [show (((fun n => AV.int .i64 n) (v.map fun b => ([.bool b] : List AV)).length) : AV) = .int .i64 v.length from congrArg _ hl]; rfl) h59 noC ?_
 refine zvw ?_;refine za3 rfl rfl rfl (fun h1 => ?_) fun h1 => ?_
 ·have h1 := bne_iff_ne.1 h1;rw [if_neg h1];refine zp4 ?_;exact uE
 ·have h1 : zcg (.nd op ix args) v.length = 0 := by simpa using h1
  rw [if_pos h1];refine zp4 ?_;refine zak rfl rfl (h100 h1) noC ?_;refine zvw ?_;exact uE
end Go.Proofs.YtdolbghhcijonaaGreat
namespace Go.Proofs.YtdolbghhcijonaaGreat
open Go Go.Am
end Go.Proofs.YtdolbghhcijonaaGreat
namespace Go.Proofs.YtdolbghhcijonaaGreat
open Go Go.Am
def vsI (l : List Int) : AV := .vs (l.map fun z => [.int .i64 z])
theorem zvj (l : List Int) : (l.map (AV.int .i64)) = (l.map fun z => ([.int .i64 z] : List AV)).flatten := by
 induction l with
 | nil => rfl
 | cons z l ih => simpa using ih
theorem zpt {S : AS} {d id sp len : Nat} {cap : Option Nat} {J : List AV} (a : List Int) (hn : a.length = len) (hl : Am.look id S.heap = some (sp, .cells (a.map (AV.int .i64) ++ J))) : S.view (d + 1) (.ms id sp 1 0 len cap) = vsI a := by
 subst hn;have e : S.elems 1 (.ms id sp 1 0 a.length cap) = some (a.map fun z => ([.int .i64 z] : List AV)) := by
  obtain ⟨n, t, hp, nx, ck, mk⟩ := S;exact zew (ys := J) (cap := cap) (n := n) (nx := nx) (ck := ck) (mk := mk) (l := []) (hp := hp) (by rw [<- zvj]; exact hl) (y06 ..) (fun x hx => by obtain ⟨s, _, rfl⟩ := y0p.1 hx; rfl)
 simp only [AS.view, e];unfold vsI;congr 1;rw [y1x];apply List.map_congr_left;intro s _;cases d <;> rfl
theorem zfg {S : AS} {d id sp len : Nat} {cap : Option Nat} (a : List Int) (hn : a.length = len) (hl : Am.look id S.heap = some (sp, .cells (a.map (AV.int .i64)))) : S.view (d + 1) (.ms id sp 1 0 len cap) = vsI a :=
 zpt (J := []) a hn (by rw [y0u]; exact hl)
theorem Keep.mono {M M' : Nat -> Prop} {H H' : HS} (h : Keep M H H') (hm : ∀ i, M i -> M' i) : Keep M' H H' :=
 ⟨h.next, h.clk, fun i hi => h.look i fun h => hi (hm i h)⟩
end Go.Proofs.YtdolbghhcijonaaGreat
namespace Go.Proofs.YtdolbghhcijonaaGreat
open Go Go.Am
def exO : Ex -> Int | .nd op _ _ => op
def exI : Ex -> Int | .nd _ ix _ => ix
def exA : Ex -> List Ex | .nd _ _ args => args
def c3 (x : Ex) : List AV := [.int .i64 (exO x), .int .i64 (exI x), .vs (cXs (exA x))]
theorem zif : ∀ x : Ex, cX x = c3 x
 | .nd _ _ _ => rfl
structure Sig where
 nm : List UInt8
 kd : Int
 on : Ex
 off : Ex
 dl : Int
 ini : Bool
structure Ctl where
 act : Int
 ins : List (List UInt8)
 sg : List Sig
 pl : List Int
 mi : List Int
structure Sta where
 en : List Int
 va : List Bool
 inp : List Bool
 vals : List Bool
 tms : List Int
def c10 (s : Sig) : List AV := [.str s.nm, .int .i64 s.kd, .int .i64 (exO s.on), .int .i64 (exI s.on), .vs (cXs (exA s.on)), .int .i64 (exO s.off), .int .i64 (exI s.off), .vs (cXs (exA s.off)), .int .i64 s.dl, .bool s.ini]
def vsN (l : List (List UInt8)) : AV := .vs (l.map fun s => [.str s])
def vsG (l : List Sig) : AV := .vs (l.map c10)
def cC (c : Ctl) : List AV := [.int .i64 c.act, vsN c.ins, vsG c.sg, vsI c.pl, vsI c.mi]
def cS (s : Sta) : List AV := [vsI s.en, vsB s.va, vsB s.inp, vsB s.vals, vsI s.tms]
def dS : Sig := ⟨[], 0, .nd 0 0 [], .nd 0 0 [], 0, false⟩
def sgA (sg : List Sig) (i : Nat) : Sig := sg.getD i dS
def nA (l : List (List UInt8)) (i : Nat) : List UInt8 := l.getD i []
def zA (l : List Int) (i : Nat) : Int := l.getD i 0
def bA (l : List Bool) (i : Nat) : Bool := l.getD i false
theorem zdn {sg : List Sig} {i : Nat} (h : i < sg.length) : (sg.map c10)[((i : Nat) : Int).toNat]? = some (c10 (sgA sg i)) := by
 rw [y1j, y0m, y0e h];unfold sgA;rw [y0k, y0e h];rfl
theorem n_get {l : List (List UInt8)} {i : Nat} (h : i < l.length) : (l.map fun s => ([.str s] : List AV))[((i : Nat) : Int).toNat]? = some [.str (nA l i)] := by
 rw [y1j, y0m, y0e h];unfold nA;rw [y0k, y0e h];rfl
theorem zib {l : List Int} {i : Nat} (h : i < l.length) : (l.map fun s => ([.int .i64 s] : List AV))[((i : Nat) : Int).toNat]? = some [.int .i64 (zA l i)] := by
 rw [y1j, y0m, y0e h];unfold zA;rw [y0k, y0e h];rfl
theorem zpy {l : List Bool} {i : Nat} (h : i < l.length) : (l.map fun s => ([.bool s] : List AV))[((i : Nat) : Int).toNat]? = some [.bool (bA l i)] := by
 rw [y1j, y0m, y0e h];unfold bA;rw [y0k, y0e h];rfl
theorem zi0 {sg : List Sig} {i : Nat} (h : i < sg.length) : sgA sg i ∈ sg := by
 unfold sgA;rw [y0k, y0e h];exact y13 h
theorem ze7 (sg : List Sig) : (sg.map c10).length = sg.length := y06 ..
theorem zpf (l : List (List UInt8)) : (l.map fun s => ([.str s] : List AV)).length = l.length := y06 ..
theorem zev (l : List Int) : (l.map fun s => ([.int .i64 s] : List AV)).length = l.length := y06 ..
theorem zhd (l : List Bool) : (l.map fun s => ([.bool s] : List AV)).length = l.length := y06 ..
structure Rd (c : Ctl) : Prop where
 i1 : c.ins.length < 9223372036854775808
 s1 : c.sg.length < 9223372036854775808
 p1 : c.pl.length < 9223372036854775808
 m1 : c.mi.length < 9223372036854775808
 n1 : ∀ i, i < c.ins.length -> (nA c.ins i).length < 9223372036854775808
 x1 : ∀ s, s ∈ c.sg -> Slim s.on /\ Slim s.off /\ s.nm.length < 9223372036854775808
theorem hL1 {P : Program} {f : FuncId} {xs : List AV} {v : AV} (h : PF P f xs v) : ∀ x ∈ [(f, xs, v)], PF P x.1 x.2.1 x.2.2 := fun x hx => by
 obtain rfl := y0j.1 hx;exact h
theorem hL2 {P : Program} {f g : FuncId} {xs bs : List AV} {v u : AV} (h : PF P f xs v) (h2 : PF P g bs u) : ∀ x ∈ [(f, xs, v), (g, bs, u)], PF P x.1 x.2.1 x.2.2 := fun x hx => by
 rcases y0d.1 hx with rfl | hx
 ·exact h
 ·exact hL1 h2 x hx
end Go.Proofs.YtdolbghhcijonaaGreat
namespace Go.Proofs.YtdolbghhcijonaaGreat
open Go Go.Am
set_option maxRecDepth 100000
def fsC (c : Ctl) : Nat := 2 * c.act.toNat + c.ins.length
def lnC (c : Ctl) : Nat := fsC c + c.sg.length
structure Sm (c : Ctl) : Prop where
 a0 : 0 <= c.act
 a6 : c.act <= 6
 i : c.ins.length <= 32
 s : c.sg.length <= 128
theorem zf8 {c : Ctl} (h : Sm c) : IntKind.wrap .i64 (IntKind.wrap .i64 (2 * c.act) + (c.ins.length : Nat)) = ((fsC c : Nat) : Int) := by
 obtain ⟨a0, a6, i, s⟩ := h;unfold fsC;rw [zbe (2 * c.act) (by omega) (by omega), zbe _ (by omega) (by omega)];omega
-- pneumatic/pneumaticref27.Signals
def ic11 : IC := sR [oM 1 (.box (.t 0)),
  oM 2 (.mov (cI 0))]
 (sR [oF 3 0 1,
  oN 4 3,
  oM 5 (.bin .mul (cI 2) (.t 4)),
  oF 6 1 1,
  oN 7 6,
  oM 8 (.len false (.t 7)),
  oM 9 (.bin .add (.t 5) (.t 8)),
  oT 2 9]
 (.ret))
theorem fn11 : env0.fn 11 = some ⟨10, ic11, [.t 2]⟩ := by kernel_rfl
theorem zl6 {c : Ctl} (h : Sm c) : PF Tryz.prog 11 [.agg (cC c)] (.int .i64 (fsC c : Nat)) := by
 have e := zf8 h;have hl := zpf c.ins;refine za6 env0_ok fn11 [(0, .agg (cC c))] (by show 1 <= 10; decide) rfl fun w0 N0 => ?_
 unfold ic11 cC vsN;refine ggd1 ?_;rw [hl, e];exact uE
-- pneumatic/control.first
def ic47 : IC := sR [oM 1 (.box (.t 0)),
  oM 2 (.mov (cI 0))]
 (sR [oF 3 0 1,
  oN 4 3,
  oM 5 (.bin .mul (cI 2) (.t 4)),
  oF 6 1 1,
  oN 7 6,
  oM 8 (.len false (.t 7)),
  oM 9 (.bin .add (.t 5) (.t 8)),
  oT 2 9]
 (.ret))
theorem fn47 : env0.fn 47 = some ⟨10, ic47, [.t 2]⟩ := by kernel_rfl
theorem znk {c : Ctl} (h : Sm c) : PF Tryz.prog 47 [.agg (cC c)] (.int .i64 (fsC c : Nat)) := by
 have e := zf8 h;have hl := zpf c.ins;refine za6 env0_ok fn47 [(0, .agg (cC c))] (by show 1 <= 10; decide) rfl fun w0 N0 => ?_
 unfold ic47 cC vsN;refine ggd1 ?_;rw [hl, e];exact uE
-- pneumatic/pneumaticref27.Lines
def ic69 : IC := sR [oM 1 (.box (.t 0)),
  oM 2 (.mov (cI 0))]
 (sR [oF 3 0 1,
  oN 4 3,
  oM 5 (.bin .mul (cI 2) (.t 4)),
  oF 6 1 1,
  oN 7 6,
  oM 8 (.len false (.t 7)),
  oM 9 (.bin .add (.t 5) (.t 8)),
  oF 10 2 1,
  oN 11 10,
  oM 12 (.len false (.t 11)),
  oM 13 (.bin .add (.t 9) (.t 12)),
  oT 2 13]
 (.ret))
theorem fn69 : env0.fn 69 = some ⟨14, ic69, [.t 2]⟩ := by kernel_rfl
theorem zw7 {c : Ctl} (h : Sm c) : PF Tryz.prog 69 [.agg (cC c)] (.int .i64 (lnC c : Nat)) := by
 have e := zf8 h;have hl := zpf c.ins;have hg := ze7 c.sg;refine za6 env0_ok fn69 [(0, .agg (cC c))] (by show 1 <= 14; decide) rfl fun w0 N0 => ?_
 unfold ic69 cC vsN vsG;refine ggd1 ?_;rw [hl, e, hg];obtain ⟨a0, a6, i, s⟩ := h;refine zab ⟨.inr rfl, _, rfl, ?_⟩;rw [zbe _ (by unfold fsC; omega) (by unfold fsC; omega)];rfl
-- pneumatic/control.count
def ic46 : IC := sR [oM 1 (.box (.t 0)),
  oM 2 (.mov (cI 0))]
 (.seq (.region [oL 3 5 1,
  oM 4 (.call (.c (.fn 47 [] [])) [(.t 3)]),
  oF 5 2 1,
  oN 6 5,
  oM 7 (.len false (.t 6)),
  oM 8 (.bin .add (.t 4) (.t 7)),
  oT 2 8] (some [[], [0], [], [2], [3], [1, 4], [5, 1, 0, 1, 2, 3, 4, 5]]))
 (.ret))
theorem fn46 : env0.fn 46 = some ⟨9, ic46, [.t 2]⟩ := by kernel_rfl
theorem zq8 {c : Ctl} (h : Sm c) : PF Tryz.prog 46 [.agg (cC c)] (.int .i64 (lnC c : Nat)) := by
 have p := znk h;have hg := ze7 c.sg;refine za6 env0_ok fn46 [(0, .agg (cC c))] (by show 1 <= 9; decide) rfl fun w0 N0 => ?_
 unfold ic46 cC at *;unfold vsG at *;refine ggd1 ?_;refine zc2 env0_ok _ (hL1 p) (fun f => Nat.beq f 47) rfl rfl rfl ?_;refine ggd2 ?_;rw [hg];obtain ⟨a0, a6, i, s⟩ := h;refine zab ⟨.inr rfl, _, rfl, ?_⟩;rw [zbe _ (by unfold fsC; omega) (by unfold fsC; omega)];rfl
def zroB (x : Ex) : Bool := decide (exO x = 0) && (decide (exI x = 0) && decide ((exA x).length = 0))
-- pneumatic/pneumaticref27.zero
def ic71 : IC := sR [oM 1 (.box (.t 0)),
  oM 2 (.mov (.c (.bool false)))]
 (sR [oF 3 0 1,
  oN 4 3,
  oM 5 (.bin .eql (.t 4) (cI 0)),
  oT 6 5,
  ⟨(some 7), .faddr 1 (.t 1), some (6, true)⟩,
  ⟨(some 8), .load none (.t 7), some (6, true)⟩,
  ⟨(some 9), .bin .eql (.t 8) (cI 0), some (6, true)⟩,
  oM 10 (.pick (.t 6) (.t 9) (.c (.bool false))),
  oT 11 10,
  ⟨(some 12), .faddr 2 (.t 1), some (11, true)⟩,
  ⟨(some 13), .load none (.t 12), some (11, true)⟩,
  ⟨(some 14), .len false (.t 13), some (11, true)⟩,
  ⟨(some 15), .bin .eql (.t 14) (cI 0), some (11, true)⟩,
  oM 16 (.pick (.t 11) (.t 15) (.c (.bool false))),
  oT 2 16]
 (.ret))
theorem fn71 : env0.fn 71 = some ⟨17, ic71, [.t 2]⟩ := by kernel_rfl
theorem zero71 (x : Ex) : PF Tryz.prog 71 [.agg (c3 x)] (.bool (zroB x)) := by
 have hl : (cXs (exA x)).length = (exA x).length := zam _;refine za6 env0_ok fn71 [(0, .agg (c3 x))] (by show 1 <= 17; decide) rfl fun w0 N0 => ?_
 unfold ic71 c3;repeat' first | refine zb3 ?_ | refine za8 rfl ?_ | refine zb1 ?_ | refine zaw ?_ | refine zbu ?_ | refine zic rfl ?_ | refine zon rfl rfl ?_ | refine zan rfl ?_ | refine zb0 rfl rfl ?_ | refine zah rfl ?_ | refine zce rfl rfl ?_ | refine zbl rfl rfl ?_ | refine zdb rfl rfl ?_ | refine zcs rfl rfl ?_ | refine za3 rfl rfl rfl (fun h => ?_) fun h => ?_
 all_goals
  refine zab ⟨.inr rfl, _, rfl, ?_⟩;show AV.bool _ = AV.bool _;refine congrArg AV.bool ?_;rw [hl] at *
  simp_all [zroB]
-- pneumatic/control.zero
def ic128 : IC := sR [oM 1 (.box (.t 0)),
  oM 2 (.mov (.c (.bool false)))]
 (sR [oF 3 0 1,
  oN 4 3,
  oM 5 (.bin .eql (.t 4) (cI 0)),
  oT 6 5,
  ⟨(some 7), .faddr 1 (.t 1), some (6, true)⟩,
  ⟨(some 8), .load none (.t 7), some (6, true)⟩,
  ⟨(some 9), .bin .eql (.t 8) (cI 0), some (6, true)⟩,
  oM 10 (.pick (.t 6) (.t 9) (.c (.bool false))),
  oT 11 10,
  ⟨(some 12), .faddr 2 (.t 1), some (11, true)⟩,
  ⟨(some 13), .load none (.t 12), some (11, true)⟩,
  ⟨(some 14), .len false (.t 13), some (11, true)⟩,
  ⟨(some 15), .bin .eql (.t 14) (cI 0), some (11, true)⟩,
  oM 16 (.pick (.t 11) (.t 15) (.c (.bool false))),
  oT 2 16]
 (.ret))
theorem fn128 : env0.fn 128 = some ⟨17, ic128, [.t 2]⟩ := by kernel_rfl
theorem zxs (x : Ex) : PF Tryz.prog 128 [.agg (c3 x)] (.bool (zroB x)) := by
 have hl : (cXs (exA x)).length = (exA x).length := zam _;refine za6 env0_ok fn128 [(0, .agg (c3 x))] (by show 1 <= 17; decide) rfl fun w0 N0 => ?_
 unfold ic128 c3;repeat' first | refine zb3 ?_ | refine za8 rfl ?_ | refine zb1 ?_ | refine zaw ?_ | refine zbu ?_ | refine zic rfl ?_ | refine zon rfl rfl ?_ | refine zan rfl ?_ | refine zb0 rfl rfl ?_ | refine zah rfl ?_ | refine zce rfl rfl ?_ | refine zbl rfl rfl ?_ | refine zdb rfl rfl ?_ | refine zcs rfl rfl ?_ | refine za3 rfl rfl rfl (fun h => ?_) fun h => ?_
 all_goals
  refine zab ⟨.inr rfl, _, rfl, ?_⟩;show AV.bool _ = AV.bool _;refine congrArg AV.bool ?_;rw [hl] at *
  simp_all [zroB]
end Go.Proofs.YtdolbghhcijonaaGreat
namespace Go.Proofs.YtdolbghhcijonaaGreat
open Go Go.Am
set_option maxRecDepth 100000
def lnT (k : Nat) : List UInt8 := [UInt8.ofNat (97 + k / 2), UInt8.ofNat (48 + k % 2)]
def nmd (c : Ctl) (k : Nat) : List UInt8 := if k < 2 * c.act.toNat then lnT k else if k < fsC c then nA c.ins (k - 2 * c.act.toNat) else (sgA c.sg (k - fsC c)).nm
-- pneumatic/pneumaticref27.Named
def ic66 : IC := sR [oM 2 (.box (.t 0)),
  oM 4 (.mov (.c (.str [])))]
 (.seq (sR [oT 5 1,
  oF 6 0 2,
  oN 7 6,
  oM 8 (.bin .mul (cI 2) (.t 7)),
  oM 9 (.bin .lss (.t 5) (.t 8))]
 (.cond (.t 9) (.seq (.region [oT 10 1,
  oM 11 (.bin .quo (.t 10) (cI 2)),
  oT 12 1,
  oM 13 (.bin .quo (.t 12) (cI 2)),
  oM 14 (.bin .add (.t 13) (cI 1)),
  oM 15 (.slstr (.c (.str [97, 98, 99, 100, 101, 102])) (some (.t 11)) (some (.t 14))),
  oT 16 1,
  oM 17 (.bin .rem (.t 16) (cI 2)),
  oT 18 1,
  oM 19 (.bin .rem (.t 18) (cI 2)),
  oM 20 (.bin .add (.t 19) (cI 1)),
  oM 21 (.slstr (.c (.str [48, 49])) (some (.t 17)) (some (.t 20))),
  oM 22 (.bin .add (.t 15) (.t 21)),
  oT 4 22] (some [[], [0], [], [2], [3], [1, 4], [], [6], [], [8], [9], [7, 10], [5, 11], [12, 0, 1, 2, 3, 4, 5, 6, 7, 8, 9, 10, 11, 12]]))
 (.ret))
 (.skip)))
 (.seq (sR [oT 23 1,
  oL 24 5 2,
  oM 25 (.call (.c (.fn 11 [] [])) [(.t 24)]),
  oM 26 (.bin .lss (.t 23) (.t 25))]
 (.cond (.t 26) (sR [oF 27 1 2,
  oN 28 27,
  oT 29 1,
  oF 30 0 2,
  oN 31 30,
  oM 32 (.bin .mul (cI 2) (.t 31)),
  oM 33 (.bin .sub (.t 29) (.t 32)),
  oM 34 (.idxs 1 (.t 28) (.t 33)),
  oN 35 34,
  oT 4 35]
 (.ret))
 (.skip)))
 (.seq (.region [oF 36 2 2,
  oN 37 36,
  oT 38 1,
  oL 39 5 2,
  oM 40 (.call (.c (.fn 11 [] [])) [(.t 39)]),
  oM 41 (.bin .sub (.t 38) (.t 40)),
  oM 42 (.idxs 10 (.t 37) (.t 41)),
  oF 43 0 42,
  oN 44 43,
  oT 4 44] (some [[], [0], [], [], [3], [2, 4], [1, 5], [6], [7], [8, 4, 0, 1, 2, 3, 4, 5, 6, 7, 8]]))
 (.ret))))
theorem fn66 : env0.fn 66 = some ⟨45, ic66, [.t 4]⟩ := by kernel_rfl
set_option maxHeartbeats 4000000 in
set_option maxRecDepth 100000 in
theorem nm66 {c : Ctl} {k : Nat} (h1 : 1 <= c.act) (h6 : c.act <= 6) (hk : k < 2 * c.act.toNat) : PF Tryz.prog 66 [.agg (cC c), .int .i64 (k : Nat)] (.str (lnT k)) := by
 have hw : IntKind.wrap .i64 (2 * c.act) = 2 * c.act := zbe _ (by omega) (by omega);have h12 : k < 12 := by omega
 have : k = 0 \/ k = 1 \/ k = 2 \/ k = 3 \/ k = 4 \/ k = 5 \/ k = 6 \/ k = 7 \/ k = 8 \/ k = 9 \/ k = 10 \/ k = 11 := by omega
 rcases this with rfl | rfl | rfl | rfl | rfl | rfl | rfl | rfl | rfl | rfl | rfl | rfl;all_goals
  refine za6 env0_ok fn66 [(0, .agg (cC c)), (1, .int .i64 _)] (y04 rfl) rfl fun w0 N0 => ?_;unfold ic66 cC;refine zbf ?_;rw [hw];refine za3 rfl rfl rfl (fun _ => ?_) fun h3 => absurd (of_decide_eq_false h3) (by omega);refine zbf ?_;repeat (first | refine zb1 ?_ | refine zaw ?_ | refine zbu ?_ | refine zaz ?_ | refine zan rfl ?_ | refine zb5 (op := .add) rfl rfl rfl ?_ | refine zb5 (op := .quo) rfl rfl rfl ?_ | refine zb5 (op := .rem) rfl rfl rfl ?_ | refine zdc (v := .str _) rfl ?_)
  exact uE
theorem nmd_t {c : Ctl} {k : Nat} (h : k < 2 * c.act.toNat) : nmd c k = lnT k := by
 unfold nmd;rw [if_pos h]
theorem nmd_i {c : Ctl} {k : Nat} (h : ¬ k < 2 * c.act.toNat) (h2 : k < fsC c) : nmd c k = nA c.ins (k - 2 * c.act.toNat) := by
 unfold nmd;rw [if_neg h, if_pos h2]
theorem nmd_s {c : Ctl} {k : Nat} (h2 : ¬ k < fsC c) : nmd c k = (sgA c.sg (k - fsC c)).nm := by
 unfold nmd;rw [if_neg (by unfold fsC at h2; omega), if_neg h2]
theorem zwe {c : Ctl} {k : Nat} (h : Sm c) (h1 : 1 <= c.act) (hk : k < lnC c) : PF Tryz.prog 66 [.agg (cC c), .int .i64 (k : Nat)] (.str (nmd c k)) := by
 by_cases c1 : k < 2 * c.act.toNat
 ·rw [nmd_t c1];exact nm66 h1 h.a6 c1
 have p := zl6 h;have hw : IntKind.wrap .i64 (2 * c.act) = 2 * c.act := zbe _ (by have := h.a6; omega) (by have := h.a6; omega)
 have hf : fsC c = 2 * c.act.toNat + c.ins.length := rfl;have hli : lnC c = fsC c + c.sg.length := rfl;have ha := h.a6;have hi := h.i;have hs := h.s;by_cases c2 : k < fsC c
 ·rw [nmd_i c1 c2];have hge := n_get (l := c.ins) (i := k - 2 * c.act.toNat) (by omega);refine za6 env0_ok fn66 [(0, .agg (cC c)), (1, .int .i64 (k : Nat))] (y04 rfl) rfl fun w0 N0 => ?_;unfold ic66 cC vsN at *;refine zbf ?_;rw [hw];refine za3 rfl rfl rfl (fun h3 => absurd (of_decide_eq_true h3) (by omega)) fun _ => ?_;refine zbd ?_;refine za3 rfl rfl rfl (fun _ => ?_) fun h3 => absurd (of_decide_eq_false h3) (by omega);refine zbf ?_;rw [hw, zbe _ (by omega) (by omega), show ((k : Nat) : Int) - 2 * c.act = ((k - 2 * c.act.toNat : Nat) : Int) by omega]
  refine zbd ?_;exact uE
 ·rw [nmd_s c2];have hge := zdn (sg := c.sg) (i := k - fsC c) (by omega);generalize sgA c.sg (k - fsC c) = s at *;refine za6 env0_ok fn66 [(0, .agg (cC c)), (1, .int .i64 (k : Nat))] (y04 rfl) rfl fun w0 N0 => ?_;unfold ic66 cC vsG at *;refine zbf ?_;rw [hw];refine za3 rfl rfl rfl (fun h3 => absurd (of_decide_eq_true h3) (by omega)) fun _ => ?_;refine zbd ?_;refine za3 rfl rfl rfl (fun h3 => absurd (of_decide_eq_true h3) (by omega)) fun _ => ?_;refine zlo ?_;refine zc2 env0_ok _ (hL1 p) (fun f => Nat.beq f 11) rfl rfl rfl ?_;refine zbf ?_;rw [zbe _ (by omega) (by omega), show ((k : Nat) : Int) - (fsC c : Nat) = ((k - fsC c : Nat) : Int) by omega]
  refine zbb ?_;exact uE
-- pneumatic/control.named
def ic107 : IC := sR [oM 2 (.box (.t 0)),
  oM 4 (.mov (.c (.str [])))]
 (sR [oL 6 5 2,
  oM 7 (.call (.c (.fn 47 [] [])) [(.t 6)]),
  oT 5 7]
 (.block 0 (sR [oT 17 1,
  oF 18 0 2,
  oN 19 18,
  oM 20 (.bin .mul (cI 2) (.t 19)),
  oM 21 (.bin .lss (.t 17) (.t 20)),
  oT 16 21]
 (.cond (.t 16) (sR [oT 22 1,
  oM 23 (.bin .quo (.t 22) (cI 2)),
  oM 24 (.bin .add (cI 97) (.t 23)),
  oM 25 (.conv .i32 (.t 24)),
  oM 26 (.rstr (.t 25)),
  oT 27 1,
  oM 28 (.bin .rem (.t 27) (cI 2)),
  oM 29 (.bin .add (cI 48) (.t 28)),
  oM 30 (.conv .i32 (.t 29)),
  oM 31 (.rstr (.t 30)),
  oM 32 (.bin .add (.t 26) (.t 31)),
  oT 4 32]
 (.ret))
 (sR [oT 34 1,
  oT 35 5,
  oM 36 (.bin .lss (.t 34) (.t 35)),
  oT 33 36]
 (.cond (.t 33) (sR [oF 37 1 2,
  oN 38 37,
  oT 39 1,
  oF 40 0 2,
  oN 41 40,
  oM 42 (.bin .mul (cI 2) (.t 41)),
  oM 43 (.bin .sub (.t 39) (.t 42)),
  oM 44 (.idxs 1 (.t 38) (.t 43)),
  oN 45 44,
  oT 4 45]
 (.ret))
 (sR [oF 8 2 2,
  oN 9 8,
  oT 10 1,
  oT 11 5,
  oM 12 (.bin .sub (.t 10) (.t 11)),
  oM 13 (.idxs 10 (.t 9) (.t 12)),
  oF 14 0 13,
  oN 15 14,
  oT 4 15]
 (.ret))))))))
theorem fn107 : env0.fn 107 = some ⟨46, ic107, [.t 4]⟩ := by kernel_rfl
set_option maxHeartbeats 1000000 in
theorem named107 {c : Ctl} {k : Nat} (h : Sm c) (h1 : 1 <= c.act) (hk : k < lnC c) : PF Tryz.prog 107 [.agg (cC c), .int .i64 (k : Nat)] (.str (nmd c k)) := by
 have p := znk h;have hw : IntKind.wrap .i64 (2 * c.act) = 2 * c.act := zbe _ (by have := h.a6; omega) (by have := h.a6; omega)
 have hf : fsC c = 2 * c.act.toNat + c.ins.length := rfl;have hli : lnC c = fsC c + c.sg.length := rfl;have ha := h.a6;have hi := h.i;have hs := h.s;by_cases c1 : k < 2 * c.act.toNat
 ·rw [nmd_t c1];refine za6 env0_ok fn107 [(0, .agg (cC c)), (1, .int .i64 (k : Nat))] (y04 rfl) rfl fun w0 N0 => ?_;unfold ic107 cC at *;refine zbf ?_;rw [hw];refine za3 rfl rfl rfl (fun _ => ?_) fun h3 => absurd (of_decide_eq_false h3) (by omega);refine zdo ?_;have hk12 : k < 12 := by omega
  clear hk hli hf c1 hs hi p
  match k, hk12 with
  | 0, _ =>
   refine zb5 (op := .quo) rfl rfl rfl ?_;refine zbb ?_;refine zcr rfl rfl ?_;repeat (first | refine zan rfl ?_)
   refine zb5 (op := .rem) rfl rfl rfl ?_;refine zbb ?_;refine zcr rfl rfl ?_;refine zbd ?_;exact uE
  | 1, _ =>
   refine zb5 (op := .quo) rfl rfl rfl ?_;refine zbb ?_;refine zcr rfl rfl ?_;repeat (first | refine zan rfl ?_)
   refine zb5 (op := .rem) rfl rfl rfl ?_;refine zbb ?_;refine zcr rfl rfl ?_;refine zbd ?_;exact uE
  | 2, _ =>
   refine zb5 (op := .quo) rfl rfl rfl ?_;refine zbb ?_;refine zcr rfl rfl ?_;repeat (first | refine zan rfl ?_)
   refine zb5 (op := .rem) rfl rfl rfl ?_;refine zbb ?_;refine zcr rfl rfl ?_;refine zbd ?_;exact uE
  | 3, _ =>
   refine zb5 (op := .quo) rfl rfl rfl ?_;refine zbb ?_;refine zcr rfl rfl ?_;repeat (first | refine zan rfl ?_)
   refine zb5 (op := .rem) rfl rfl rfl ?_;refine zbb ?_;refine zcr rfl rfl ?_;refine zbd ?_;exact uE
  | 4, _ =>
   refine zb5 (op := .quo) rfl rfl rfl ?_;refine zbb ?_;refine zcr rfl rfl ?_;repeat (first | refine zan rfl ?_)
   refine zb5 (op := .rem) rfl rfl rfl ?_;refine zbb ?_;refine zcr rfl rfl ?_;refine zbd ?_;exact uE
  | 5, _ =>
   refine zb5 (op := .quo) rfl rfl rfl ?_;refine zbb ?_;refine zcr rfl rfl ?_;repeat (first | refine zan rfl ?_)
   refine zb5 (op := .rem) rfl rfl rfl ?_;refine zbb ?_;refine zcr rfl rfl ?_;refine zbd ?_;exact uE
  | 6, _ =>
   refine zb5 (op := .quo) rfl rfl rfl ?_;refine zbb ?_;refine zcr rfl rfl ?_;repeat (first | refine zan rfl ?_)
   refine zb5 (op := .rem) rfl rfl rfl ?_;refine zbb ?_;refine zcr rfl rfl ?_;refine zbd ?_;exact uE
  | 7, _ =>
   refine zb5 (op := .quo) rfl rfl rfl ?_;refine zbb ?_;refine zcr rfl rfl ?_;repeat (first | refine zan rfl ?_)
   refine zb5 (op := .rem) rfl rfl rfl ?_;refine zbb ?_;refine zcr rfl rfl ?_;refine zbd ?_;exact uE
  | 8, _ =>
   refine zb5 (op := .quo) rfl rfl rfl ?_;refine zbb ?_;refine zcr rfl rfl ?_;repeat (first | refine zan rfl ?_)
   refine zb5 (op := .rem) rfl rfl rfl ?_;refine zbb ?_;refine zcr rfl rfl ?_;refine zbd ?_;exact uE
  | 9, _ =>
   refine zb5 (op := .quo) rfl rfl rfl ?_;refine zbb ?_;refine zcr rfl rfl ?_;repeat (first | refine zan rfl ?_)
   refine zb5 (op := .rem) rfl rfl rfl ?_;refine zbb ?_;refine zcr rfl rfl ?_;refine zbd ?_;exact uE
  | 10, _ =>
   refine zb5 (op := .quo) rfl rfl rfl ?_;refine zbb ?_;refine zcr rfl rfl ?_;repeat (first | refine zan rfl ?_)
   refine zb5 (op := .rem) rfl rfl rfl ?_;refine zbb ?_;refine zcr rfl rfl ?_;refine zbd ?_;exact uE
  | 11, _ =>
   refine zb5 (op := .quo) rfl rfl rfl ?_;refine zbb ?_;refine zcr rfl rfl ?_;repeat (first | refine zan rfl ?_)
   refine zb5 (op := .rem) rfl rfl rfl ?_;refine zbb ?_;refine zcr rfl rfl ?_;refine zbd ?_;exact uE
 by_cases c2 : k < fsC c
 ·rw [nmd_i c1 c2];have hge := n_get (l := c.ins) (i := k - 2 * c.act.toNat) (by omega);refine za6 env0_ok fn107 [(0, .agg (cC c)), (1, .int .i64 (k : Nat))] (y04 rfl) rfl fun w0 N0 => ?_;unfold ic107 cC vsN at *;refine zbf ?_;rw [hw];refine za3 rfl rfl rfl (fun h3 => absurd (of_decide_eq_true h3) (by omega)) fun _ => ?_;refine zlo ?_;refine za3 rfl rfl rfl (fun _ => ?_) fun h3 => absurd (of_decide_eq_false h3) (by omega);refine zbf ?_;rw [hw, zbe _ (by omega) (by omega), show ((k : Nat) : Int) - 2 * c.act = ((k - 2 * c.act.toNat : Nat) : Int) by omega]
  refine zbd ?_;exact uE
 ·rw [nmd_s c2];have hge := zdn (sg := c.sg) (i := k - fsC c) (by omega);generalize sgA c.sg (k - fsC c) = s at *;refine za6 env0_ok fn107 [(0, .agg (cC c)), (1, .int .i64 (k : Nat))] (y04 rfl) rfl fun w0 N0 => ?_;unfold ic107 cC vsG at *;refine zbf ?_;rw [hw];refine za3 rfl rfl rfl (fun h3 => absurd (of_decide_eq_true h3) (by omega)) fun _ => ?_;refine zlo ?_;refine za3 rfl rfl rfl (fun h3 => absurd (of_decide_eq_true h3) (by omega)) fun _ => ?_;refine zbf ?_;rw [zbe _ (by omega) (by omega), show ((k : Nat) : Int) - (fsC c : Nat) = ((k - fsC c : Nat) : Int) by omega]
  refine zbb ?_;exact uE
end Go.Proofs.YtdolbghhcijonaaGreat
namespace Go.Proofs.YtdolbghhcijonaaGreat
open Go Go.Am
set_option maxRecDepth 100000
def smB (n : Nat) : Bool := decide (97 <= n) && decide (n <= 122)
def grB (n : Nat) : Bool := decide (65 <= n) && decide (n <= 90)
def prB (n : Nat) : Bool := smB n || (grB n || (decide (n = 95) || (decide (48 <= n) && decide (n <= 57))))
def wdB (s : List UInt8) : Bool := s.all (fun b => prB b.toNat) && (match s with
 | [] => false
 | b :: _ => smB b.toNat)
section
variable {P : Program} {w0 : World} {N0 : Nat} {k : List Fr} {Q : Exit -> AS -> Prop} {pf : Kn} {ios : List Opr} {n nx ck : Nat} {mk : List (Nat × Nat)} {md : Md} {l : List (Nat × AV)} {hp : List (Nat × Nat × AObj)}
theorem o_ixs {d : Nat} {x i : Arg} {s : List UInt8} {kd : IntKind} {z : Int} {b : UInt8} (hx : zas x l = some (.str s)) (hi : zas i l = some (.int kd z)) (h0 : 0 <= z) (hb : s[z.toNat]? = some b) (go : Om P w0 N0 md pf ios (st n ((d, .int .u8 b.toNat) :: l) hp nx ck mk) k Q) : Om P w0 N0 md pf (⟨some d, .idxstr x i, none⟩ :: ios) (st n l hp nx ck mk) k Q :=
 zdc (zm8 ((zai x).trans hx) ((zai i).trans hi) h0 hb) go
end
-- pneumatic/control.part
def ic131 : IC := sR [oM 2 (.mov (.c (.bool false)))]
 (sR [oT 3 0,
  oM 4 (.bin .geq (.t 3) (.c (.int .u8 97))),
  oT 5 4,
  ⟨(some 6), .mov (.t 0), some (5, true)⟩,
  ⟨(some 7), .bin .leq (.t 6) (.c (.int .u8 122)), some (5, true)⟩,
  oM 8 (.pick (.t 5) (.t 7) (.c (.bool false))),
  oT 9 8,
  ⟨(some 10), .mov (.t 0), some (9, false)⟩,
  ⟨(some 11), .bin .geq (.t 10) (.c (.int .u8 65)), some (9, false)⟩,
  ⟨(some 12), .mov (.t 11), some (9, false)⟩,
  ⟨(some 13), .mov (.t 0), some (12, true)⟩,
  ⟨(some 14), .bin .leq (.t 13) (.c (.int .u8 90)), some (12, true)⟩,
  ⟨(some 15), .pick (.t 12) (.t 14) (.c (.bool false)), some (9, false)⟩,
  oM 16 (.pick (.t 9) (.c (.bool true)) (.t 15)),
  oT 17 16,
  ⟨(some 18), .mov (.t 0), some (17, false)⟩,
  ⟨(some 19), .bin .geq (.t 18) (.c (.int .u8 48)), some (17, false)⟩,
  ⟨(some 20), .mov (.t 19), some (17, false)⟩,
  ⟨(some 21), .mov (.t 0), some (20, true)⟩,
  ⟨(some 22), .bin .leq (.t 21) (.c (.int .u8 57)), some (20, true)⟩,
  ⟨(some 23), .pick (.t 20) (.t 22) (.c (.bool false)), some (17, false)⟩,
  oM 24 (.pick (.t 17) (.c (.bool true)) (.t 23)),
  oT 25 24,
  ⟨(some 26), .mov (.t 0), some (25, false)⟩,
  ⟨(some 27), .bin .eql (.t 26) (.c (.int .u8 95)), some (25, false)⟩,
  oM 28 (.pick (.t 25) (.c (.bool true)) (.t 27)),
  oT 2 28]
 (.ret))
theorem fn131 : env0.fn 131 = some ⟨29, ic131, [.t 2]⟩ := by kernel_rfl
set_option maxHeartbeats 4000000 in
set_option maxRecDepth 100000 in
theorem part131 (b : Nat) (_ : b < 256) : PF Tryz.prog 131 [.int .u8 b] (.bool (prB b)) := by
 refine za6 env0_ok fn131 [(0, .int .u8 b)] (y04 rfl) rfl fun w0 N0 => ?_;unfold ic131;repeat' first | refine zb3 ?_ | refine za8 rfl ?_ | refine zb1 ?_ | refine zaw ?_ | refine zbu ?_ | refine zic rfl ?_ | refine zon rfl rfl ?_ | refine o_gt rfl ?_ | refine zan rfl ?_ | refine zce rfl rfl ?_ | refine zbl rfl rfl ?_ | refine za3 rfl rfl rfl (fun h => ?_) fun h => ?_
 all_goals
  refine zab ⟨.inr rfl, _, rfl, congrArg AV.bool ?_⟩;simp only [decide_eq_true_eq, decide_eq_false_iff_not, beq_iff_eq, beq_eq_false_iff_ne, ne_eq, prB, smB, grB] at *;simp
  try omega
def rnB (x : Nat) : Bool := decide (122 < x) || !prB (x % 256)
-- (*pneumatic/control.checker).name$1
def ic130 : IC := sR [oM 2 (.mov (.c (.bool false)))]
 (sR [oT 3 0,
  oM 4 (.bin .gtr (.t 3) (.c (.int .i32 122))),
  oT 5 4,
  ⟨(some 6), .mov (.t 0), some (5, false)⟩,
  ⟨(some 7), .conv .u8 (.t 6), some (5, false)⟩,
  ⟨(some 8), .call (.c (.fn 131 [] [])) [(.t 7)], some (5, false)⟩,
  ⟨(some 9), .un .not (.t 8), some (5, false)⟩,
  oM 10 (.pick (.t 5) (.c (.bool true)) (.t 9)),
  oT 2 10]
 (.ret))
theorem fn130 : env0.fn 130 = some ⟨11, ic130, [.t 2]⟩ := by kernel_rfl
theorem name130 (x : Nat) (hx : x <= 1114111) : PF Tryz.prog 130 [.int .i32 x] (.bool (rnB x)) := by
 have p := part131 (x % 256) (Nat.mod_lt _ (by decide));have hw : IntKind.wrap .u8 ((x : Nat) : Int) = ((x % 256 : Nat) : Int) := by
  show ((x : Nat) : Int) % 256 = _;omega
 refine za6 env0_ok fn130 [(0, .int .i32 x)] (y04 rfl) rfl fun w0 N0 => ?_;unfold ic130 rnB;generalize prB (x % 256) = b at *;refine zdo ?_;refine za3 rfl rfl rfl (fun h => ?_) fun h => ?_
 ·have h : 122 < x := by have := of_decide_eq_true h; omega
  rw [decide_eq_true h];refine zcb ?_;exact uE
 ·have h : ¬ 122 < x := by have := of_decide_eq_false h; omega
  rw [decide_eq_false h];refine zbf ?_;rw [hw];exact uE
def b67_0 : IC := .seq (sR [oT 6 3,
  oT 7 0,
  oM 8 (.len true (.t 7)),
  oM 9 (.bin .lss (.t 6) (.t 8))]
 (.cond (.t 9) (.skip)
 (.exit 0)))
 (.seq (.block 1 (.seq (.region [oT 12 0,
  oT 13 3,
  oM 14 (.idxstr (.t 12) (.t 13)),
  oM 15 (.bin .geq (.t 14) (.c (.int .u8 97))),
  oT 16 15,
  ⟨(some 17), .mov (.t 0), some (16, true)⟩,
  ⟨(some 18), .mov (.t 3), some (16, true)⟩,
  ⟨(some 19), .idxstr (.t 17) (.t 18), some (16, true)⟩,
  ⟨(some 20), .bin .leq (.t 19) (.c (.int .u8 122)), some (16, true)⟩,
  oM 21 (.pick (.t 16) (.t 20) (.c (.bool false))),
  oT 22 0,
  oT 23 3,
  oM 24 (.idxstr (.t 22) (.t 23)),
  oM 25 (.bin .geq (.t 24) (.c (.int .u8 65))),
  oT 26 25,
  ⟨(some 27), .mov (.t 0), some (26, true)⟩,
  ⟨(some 28), .mov (.t 3), some (26, true)⟩,
  ⟨(some 29), .idxstr (.t 27) (.t 28), some (26, true)⟩,
  ⟨(some 30), .bin .leq (.t 29) (.c (.int .u8 90)), some (26, true)⟩,
  oM 31 (.pick (.t 26) (.t 30) (.c (.bool false))),
  oT 4 21,
  oT 5 31] (some [[], [], [0, 1], [2], [3], [4], [4], [5, 6, 4], [7, 4], [4, 8], [], [], [10, 11], [12], [13, 4], [14], [14], [15, 16, 14], [17, 14], [14, 18], [9, 14, 0, 1, 2, 3, 4, 5, 6, 7, 8, 9], [19, 20, 0, 1, 2, 3, 4, 5, 6, 7, 8, 9, 10, 11, 12, 13, 14, 15, 16, 17, 18, 19, 20]]))
 (sR [oT 32 3,
  oM 33 (.bin .eql (.t 32) (cI 0)),
  oT 34 33,
  ⟨(some 35), .mov (.t 4), some (34, true)⟩,
  ⟨(some 36), .un .not (.t 35), some (34, true)⟩,
  oM 37 (.pick (.t 34) (.t 36) (.c (.bool false))),
  oT 38 37,
  ⟨(some 39), .mov (.t 4), some (38, false)⟩,
  ⟨(some 40), .un .not (.t 39), some (38, false)⟩,
  ⟨(some 41), .mov (.t 40), some (38, false)⟩,
  ⟨(some 42), .mov (.t 5), some (41, true)⟩,
  ⟨(some 43), .un .not (.t 42), some (41, true)⟩,
  ⟨(some 44), .pick (.t 41) (.t 43) (.c (.bool false)), some (38, false)⟩,
  ⟨(some 45), .mov (.t 44), some (38, false)⟩,
  ⟨(some 46), .mov (.t 0), some (45, true)⟩,
  ⟨(some 47), .mov (.t 3), some (45, true)⟩,
  ⟨(some 48), .idxstr (.t 46) (.t 47), some (45, true)⟩,
  ⟨(some 49), .bin .neq (.t 48) (.c (.int .u8 95)), some (45, true)⟩,
  ⟨(some 50), .pick (.t 45) (.t 49) (.c (.bool false)), some (38, false)⟩,
  ⟨(some 51), .mov (.t 50), some (38, false)⟩,
  ⟨(some 52), .mov (.t 0), some (51, true)⟩,
  ⟨(some 53), .mov (.t 3), some (51, true)⟩,
  ⟨(some 54), .idxstr (.t 52) (.t 53), some (51, true)⟩,
  ⟨(some 55), .bin .lss (.t 54) (.c (.int .u8 48)), some (51, true)⟩,
  ⟨(some 56), .mov (.t 55), some (51, true)⟩,
  ⟨(some 57), .mov (.t 0), some (56, false)⟩,
  ⟨(some 58), .mov (.t 3), some (56, false)⟩,
  ⟨(some 59), .idxstr (.t 57) (.t 58), some (56, false)⟩,
  ⟨(some 60), .bin .gtr (.t 59) (.c (.int .u8 57)), some (56, false)⟩,
  ⟨(some 61), .pick (.t 56) (.c (.bool true)) (.t 60), some (51, true)⟩,
  ⟨(some 62), .pick (.t 51) (.t 61) (.c (.bool false)), some (38, false)⟩,
  oM 63 (.pick (.t 38) (.c (.bool true)) (.t 62))]
 (.cond (.t 63) (sR [oM 2 (.mov (.c (.bool false)))]
 (.ret))
 (.skip)))))
 (.region [oT 10 3,
  oM 11 (.bin .add (.t 10) (cI 1)),
  oT 3 11] none))
-- pneumatic/pneumaticref27.word
def ic67 : IC := sR [oM 2 (.mov (.c (.bool false)))]
 (.seq (sR [oM 3 (.mov (cI 0))]
 (.block 0 (.loop b67_0)))
 (sR [oT 64 0,
  oM 65 (.bin .neq (.t 64) (.c (.str []))),
  oT 2 65]
 (.ret)))
theorem fn67 : env0.fn 67 = some ⟨66, ic67, [.t 2]⟩ := by kernel_rfl
def bdB (i : Nat) (b : Nat) : Bool := (decide (i = 0) && !smB b) || !prB b
theorem zum (i n : Nat) : bdB i n = true ↔ ((i = 0 /\ ¬ (97 <= n /\ n <= 122)) \/ ¬ ((97 <= n /\ n <= 122) \/ (65 <= n /\ n <= 90) \/ n = 95 \/ (48 <= n /\ n <= 57))) := by
 unfold bdB prB smB grB;simp;omega
theorem wd_bad {s : List UInt8} {i : Nat} (h : i < s.length) (hb : bdB i s[i].toNat = true) : wdB s = false := by
 unfold bdB at hb;rw [y0v] at hb;unfold wdB;rcases hb with hb | hb
 ·rw [y0g, decide_eq_true_eq] at hb;obtain ⟨rfl, h2⟩ := hb;cases s with
  | nil => cases h
  | cons a r =>
   have h2 : (!smB a.toNat) = true := h2;have h2 : smB a.toNat = false := by simpa using h2
   show (_ && smB a.toNat) = false;rw [h2, Bool.and_false]
 ·have : s.all (fun b => prB b.toNat) = false := by
   rw [List.all_eq_false];exact ⟨s[i], y13 h, by simpa using hb⟩
  rw [this, y25]
theorem wd_good {s : List UInt8} (h : ∀ i (h : i < s.length), bdB i s[i].toNat = false) : wdB s = decide (s ≠ []) := by
 unfold wdB;have h1 : s.all (fun b => prB b.toNat) = true := by
  rw [y0h];intro b hb;obtain ⟨i, hi, rfl⟩ := List.getElem_of_mem hb;have := h i hi;unfold bdB at this;simp at this;exact this.2
 rw [h1, y1k];cases s with
 | nil => rfl
 | cons a r =>
  have := h 0 (Nat.zero_lt_succ _);unfold bdB at this;simp at this;show smB a.toNat = _;rw [this.1];rfl
set_option maxHeartbeats 4000000 in
theorem word67 (s : List UInt8) (hs : s.length <= 1000000) : PF Tryz.prog 67 [.str s] (.bool (wdB s)) := by
 refine za6 env0_ok fn67 [(0, .str s)] (y04 rfl) rfl fun w0 N0 => ?_;unfold ic67;refine zcb ?_;refine zav (fun mm S => ∃ i, mm = s.length - i /\ i <= s.length /\ (∀ j (h : j < s.length), j < i -> bdB j s[j].toNat = false) /\ S = st 66 [(0, .str s), (3, .int .i64 (i : Nat))] [] 0 0) s.length
  skp ⟨0, rfl, y0q _, fun j _ h => absurd h (y1b _), rfl⟩ ?_
 rintro mm S ⟨i, rfl, hi, hv, rfl⟩;unfold b67_0;refine zbt ?_;refine za3 rfl rfl rfl (fun h3 => ?_) fun h3 => ?_
 ·have hlt : i < s.length := by have := of_decide_eq_true h3; omega
  have hg : s[((i : Nat) : Int).toNat]? = some s[i] := by rw [y1j, y0e hlt]
  have hbad := wd_bad hlt;have hsucc : bdB i s[i].toNat = false -> ∀ j (h : j < s.length), j < i + 1 -> bdB j s[j].toNat = false := fun h0 j hj hji => by
   rcases y19.1 hji with h | rfl
   ·exact hv j hj h
   ·exact h0
  generalize s[i] = b at *;have hbad : (i = 0 /\ ¬ (97 <= b.toNat /\ b.toNat <= 122)) \/ ¬ ((97 <= b.toNat /\ b.toNat <= 122) \/ (65 <= b.toNat /\ b.toNat <= 90) \/ b.toNat = 95 \/ (48 <= b.toNat /\ b.toNat <= 57)) -> wdB s = false := fun h => hbad ((zum i b.toNat).2 h);have hsucc : ¬ ((i = 0 /\ ¬ (97 <= b.toNat /\ b.toNat <= 122)) \/ ¬ ((97 <= b.toNat /\ b.toNat <= 122) \/ (65 <= b.toNat /\ b.toNat <= 90) \/ b.toNat = 95 \/ (48 <= b.toNat /\ b.toNat <= 57))) -> ∀ j (h : j < s.length), j < i + 1 -> bdB j s[j].toNat = false := fun h => hsucc (by
   cases hc : bdB i b.toNat with
   | false => rfl
   | true => exact absurd ((zum i b.toNat).1 hc) h)
  clear hv h3;have w1 := za9 i (by omega);repeat' first | refine zb3 ?_ | refine za8 rfl ?_ | refine zb1 ?_ | refine zaw ?_ | refine zff ?_ | refine zba ?_ | refine zbg ?_ | refine zgv rfl ?_ | refine zfw rfl ?_ | refine zbu ?_ | refine zaz ?_ | refine zbs ?_ | refine zic rfl ?_ | refine zon rfl rfl ?_ | refine o_gt rfl ?_ | refine zan rfl ?_ | refine zce rfl rfl ?_ | refine zbl rfl rfl ?_ | refine zu0 rfl rfl ?_ | refine zi9 env0_ok rfl rfl rfl ?_ | refine zb5 (op := .add) rfl rfl rfl ?_ | refine o_ixs rfl rfl (y0z _) (by assumption) ?_ | refine za3 rfl rfl rfl (fun h => ?_) fun h => ?_
  all_goals
   simp only [decide_eq_true_eq, decide_eq_false_iff_not, beq_iff_eq, beq_eq_false_iff_ne, bne_iff_ne, ne_eq, bne_eq_false_iff_eq] at *;first
   | exact zab ⟨.inr rfl, _, rfl, by rw [hbad (by omega)]; rfl⟩
   | (rw [w1]; exact zad (show s.length - (i + 1) < s.length - i by omega) skp ⟨i + 1, rfl, hlt, hsucc (by omega), rfl⟩)
 ·have hie : i = s.length := by have := of_decide_eq_false h3; omega
  have hg := wd_good fun j h => hv j h (by omega);rw [hg];refine zbb ?_;refine zbp ?_;refine zbb ?_;refine za3 rfl rfl rfl (fun h => ?_) fun h => ?_
  ·refine zdo ?_;have h : s ≠ [] := by simpa using h
   exact zab ⟨.inr rfl, _, rfl, by rw [decide_eq_true h]; rfl⟩
  ·refine zdo ?_;have h : s = [] := by simpa using h
   exact zab ⟨.inr rfl, _, rfl, by rw [decide_eq_false (by simpa using h)]; rfl⟩
end Go.Proofs.YtdolbghhcijonaaGreat
namespace Go.Proofs.YtdolbghhcijonaaGreat
open Go Go.Am
set_option maxRecDepth 100000
def b103_0 : IC := .seq (sR [oT 13 5,
  oF 14 2 2,
  oN 15 14,
  oM 16 (.len false (.t 15)),
  oM 17 (.bin .lss (.t 13) (.t 16))]
 (.cond (.t 17) (.skip)
 (.exit 0)))
 (.seq (.block 1 (sR [oF 20 2 2,
  oN 21 20,
  oT 22 5,
  oM 23 (.idxs 3 (.t 21) (.t 22)),
  oL 24 3 23,
  oT 25 1,
  oM 26 (.call (.c (.fn 103 [] [])) [(.t 24), (.t 25)])]
 (.cond (.t 26) (sR [oM 4 (.mov (.c (.bool true)))]
 (.ret))
 (.skip))))
 (.region [oT 18 5,
  oM 19 (.bin .add (.t 18) (cI 1)),
  oT 5 19] none))
-- pneumatic/pneumaticref05.Occurs
def ic103 : IC := sR [oM 2 (.box (.t 0)),
  oM 4 (.mov (.c (.bool false)))]
 (.seq (sR [oF 6 0 2,
  oN 7 6,
  oM 8 (.bin .eql (.t 7) (cI 1))]
 (.cond (.t 8) (sR [oF 9 1 2,
  oN 10 9,
  oT 11 1,
  oM 12 (.bin .eql (.t 10) (.t 11)),
  oT 4 12]
 (.ret))
 (.skip)))
 (.seq (sR [oM 5 (.mov (cI 0))]
 (.block 0 (.loop b103_0)))
 (sR [oM 4 (.mov (.c (.bool false)))]
 (.ret))))
theorem fn103 : env0.fn 103 = some ⟨27, ic103, [.t 4]⟩ := by kernel_rfl
mutual
def occB (v : Int) : Ex -> Bool
 | .nd op ix args => if op = 1 then decide (ix = v) else occL v args
def occL (v : Int) : List Ex -> Bool
 | [] => false
 | y :: ys => occB v y || occL v ys
end
theorem zwk (v : Int) {args : List Ex} {i : Nat} (h : i < args.length) : occL v (args.drop i) = (occB v args[i] || occL v (args.drop (i + 1))) := by
 rw [y0t h, occL]
set_option maxHeartbeats 2000000 in
theorem occurs94 (v : Int) : ∀ (q : Nat) (x : Ex), SizeOf.sizeOf x <= q -> Slim x -> PF Tryz.prog 103 [.agg (cX x), .int .i64 v] (.bool (occB v x)) := by
 intro q
 induction q with
 | zero => intro x hq; cases x; simp at hq
 | succ q ih =>
  intro x hq hs;obtain ⟨op, ix, args⟩ := x;obtain ⟨hlen, hsl⟩ := zl7 hs;refine za6 env0_ok fn103 [(0, .agg (cX (.nd op ix args))), (1, .int .i64 v)] (by show 2 <= 27; decide) rfl fun w0 N0 => ?_
  unfold ic103;rw [occB];refine zsr rfl (zcs rfl rfl (zan rfl (onu ?_)));refine zck [] [(0, 0, cX (.nd op ix args))] [(1, .int .i64 v), (2, .vptr (cX (.nd op ix args)))] rfl (.cons rfl rfl .nil) .nil (.cons rfl (.same rfl) (.cons rfl (.fptr rfl rfl) .nil)) ?_;refine gge0 ?_;refine za3 rfl rfl rfl (fun h1 => ?_) fun h1 => ?_
  ·rw [if_pos (by simpa using h1)];refine gge1 ?_;refine za3 rfl rfl rfl (fun h2 => ?_) fun h2 => ?_
   ·refine gge1 ?_;exact zab ⟨.inr rfl, _, rfl, by rw [decide_eq_true (by simpa using h2)]; rfl⟩
   ·refine gge1 ?_;exact zab ⟨.inr rfl, _, rfl, by rw [decide_eq_false (by simpa using h2)]; rfl⟩
  ·rw [if_neg (by simpa using h1)];refine gge2 ?_;refine zav (fun mm S => ∃ i, mm = args.length - i /\ i <= args.length /\ occL v args = occL v (args.drop i) /\
     S = st 27 [(1, .int .i64 v), (2, .vptr (cX (.nd op ix args))), (5, .int .i64 (i : Nat))] [] 0 1) args.length
    skp ⟨0, rfl, y0q _, rfl, rfl⟩ ?_
   rintro mm S ⟨i, rfl, hi, hall, rfl⟩;unfold b103_0;refine gge2 ?_;refine za3 rfl rfl rfl (fun h3 => ?_) fun h3 => ?_
   ·have hlt : i < args.length := by
     have := of_decide_eq_true h3;rw [zam] at this;omega
    rw [zwk v hlt] at hall;have hge := zej hlt;have hmem : args[i] ∈ args := y13 hlt;have py := ih args[i] (by have := zh3 (op := op) (ix := ix) hmem; omega) (hsl _ hmem)
    generalize args[i] = y at *;generalize occB v y = oy at *;obtain ⟨yo, yi, ya⟩ := y;refine gge2 ?_;refine zak rfl rfl py (fun h => Bool.noConfusion (show false = true from h)) ?_
    cases oy with
    | true =>
     refine gge3 ?_;exact zab ⟨.inr rfl, _, rfl, by rw [hall]; rfl⟩
    | false =>
     rw [Bool.false_or] at hall;refine gge3 ?_;rw [za9 i (by omega)];exact zad (show args.length - (i + 1) < args.length - i by omega) skp ⟨i + 1, rfl, hlt, hall, rfl⟩
   ·have hi2 : i = args.length := by
     have := of_decide_eq_false h3;rw [zam] at this;omega
    rw [hi2, y1m, occL] at hall;refine gge4 ?_;refine zbp ?_;refine gge4 ?_;exact zab ⟨.inr rfl, _, rfl, by rw [hall]; rfl⟩
end Go.Proofs.YtdolbghhcijonaaGreat
