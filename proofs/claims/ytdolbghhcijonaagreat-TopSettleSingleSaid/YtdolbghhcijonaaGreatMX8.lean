/-
  A MACHINE THAT IS MADE.; A ROUND: what becomes of a signal.; A ROUND: the writing of a signal.; A ROUND.; ROUNDS KEEP A STATE RIGHT.; SORTING AND COMPACTING NOTHING.; ROUNDS UNTIL NOTHING CHANGES.; SETTLE AND ROUND.
-/
import Derived.Test.YtdolbghhcijonaaGreatMX7
namespace Go.Proofs.YtdolbghhcijonaaGreat
open Go Go.Am
set_option maxRecDepth 100000
theorem g_bin {op : BinOp} {x y : Arg} {a b v : AV} {n nx ck : Nat} {l : List (Nat × AV)} {hp : List (Nat × Nat × AObj)} {mk : List (Nat × Nat)} (hx : zas x l = some a) (hy : zas y l = some b) (hb : Am.binOp op a b = some v) : iop (st n l hp nx ck mk) (.bin op x y) = some (v, st n l hp nx ck mk) := by simp only [iop, zai, hx, hy, hb]; rfl
theorem Sms.shs {s : Sta} (h : Sms s) : Shs s := ⟨by have := h.e; omega, by have := h.v; omega, by have := h.i; omega, by have := h.b; omega, by have := h.t; omega⟩
def nil11 : List AV := [.int .i64 0, .nils, .nils, .nils, .nils, .nils, .nils, .nils, .nils, .nils, .int .i64 0]
theorem parts21 {x y z : Nat} {c : Ctl} {s : Sta} {wv wt : AV} {f : Int} {l : List (Nat × AV)} (h1 : zac x l = some (.agg (cC c))) (h2 : zac y l = some (.agg [vsI s.en, vsB s.va, vsB s.inp, wv, wt])) (h3 : zac z l = some (.int .i64 f)) :
  zen [(0, 5, (.t x)), (5, 5, (.t y)), (10, 1, (.t z))] l = some [(0, .agg (cC c)), (5, .agg [vsI s.en, vsB s.va, vsB s.inp, wv, wt]), (10, .int .i64 f)] := by
 simp only [zen, zas, h1, h2, h3];rfl
theorem fill21 {c : Ctl} {s : Sta} {wv wt : AV} {f : Int} (h : zbi nil11 [(0, .agg (cC c)), (5, .agg [vsI s.en, vsB s.va, vsB s.inp, wv, wt]), (10, .int .i64 f)] = some (cC c ++ [vsI s.en, vsB s.va, vsB s.inp, wv, wt, .int .i64 f]) := by rfl) : zbi nil11 [(0, .agg (cC c)), (5, .agg [vsI s.en, vsB s.va, vsB s.inp, wv, wt]), (10, .int .i64 f)] = some (cC c ++ [vsI s.en, vsB s.va, vsB s.inp, wv, wt, .int .i64 f]) := h
def pres21 : List (List Nat) := [[], [], [1], [], [3], [4], [], [6], [7], [5, 8], [0, 2, 9], [10], [11, 2, 0, 1, 2, 3, 4, 5, 6, 7, 8, 9, 10, 11], [12, 0, 1, 2, 3, 4, 5, 6, 7, 8, 9, 10, 11, 12]]
def rg21 (b : Nat) (ck : Nat) (c : Ctl) (s : Sta) : RegC where
 m := 11
 dst := fun j => j + 13
 qv := fun j => match j with
  | 0 => .c fun _ => .agg (cC c)
  | 1 => .c fun _ => .agg (cS s)
  | 3 => .c fun _ => .mptr b ck (0 + 0)
  | 4 => .c fun _ => .int .i64 c.act
  | 5 => .c fun _ => .int .i64 (IntKind.wrap .i64 (2 * c.act))
  | 6 => .c fun _ => .mptr b ck (0 + 1)
  | 7 => .c fun _ => vsN c.ins
  | 8 => .c fun _ => .int .i64 (c.ins.length : Nat)
  | 9 => .c fun _ => .int .i64 (fsC c : Nat)
  | 10 => .c fun nm => .agg (cC c ++ [vsI s.en, vsB s.va, vsB s.inp, wvA s.vals (nm 2 0) (nm 2 1), wtA true s.tms (nm 2 2) (nm 2 3), .int .i64 (fsC c : Nat)])
  | _ => .l
 lw := fun _ x => .agg [vsI s.en, vsB s.va, vsB s.inp, wvA s.vals (x 0) (x 1), wtA true s.tms (x 2) (x 3)]
 tl := fun _ x hp lo hi => (s.vals ≠ [] -> Am.look (x 0) hp = some (x 1, .cells (bC s.vals)) /\ lo <= x 0 /\ x 0 < hi) /\ (s.tms ≠ [] -> Am.look (x 2) hp = some (x 3, .cells (zC s.tms)) /\ lo <= x 2 /\ x 2 < hi) /\ (s.vals ≠ [] -> s.tms ≠ [] -> x 0 ≠ x 2)
 st := fun _ _ _ _ _ _ h hk => ⟨fun e => ⟨(hk _ (h.1 e).2.2).trans (h.1 e).1, (h.1 e).2⟩, fun e => ⟨(hk _ (h.2.1 e).2.2).trans (h.2.1 e).1, (h.2.1 e).2⟩, h.2.2⟩
theorem rok21 : zhw 11 14 pres21 (fun j => j + 13) [2, 3] = true := by kernel_rfl
-- pneumatic/settle.of
def ic21 : IC := sR [oM 2 (.box (.t 0)),
  oM 3 (.box (.t 1)),
  oM 4 (.mov (.c (.nilp))),
  oM 5 (.mov (cI 0))]
 (.seq (sR [oL 7 5 2,
  oL 8 5 3,
  oM 9 (.call (.c (.fn 30 [] [])) [(.t 7), (.t 8)]),
  oT 6 9]
 (sR [oT 10 6,
  oM 11 (.bin .neq (.t 10) (cI 0))]
 (.cond (.t 11) (sR [oT 12 6,
  oM 4 (.mov (.c (.nilp))),
  oT 5 12]
 (.ret))
 (.skip))))
 (.seq (.region [oL 13 5 2,
  oL 14 5 3,
  oM 15 (.call (.c (.fn 39 [] [])) [(.t 14)]),
  oF 16 0 2,
  oN 17 16,
  oM 18 (.bin .mul (cI 2) (.t 17)),
  oF 19 1 2,
  oN 20 19,
  oM 21 (.len false (.t 20)),
  oM 22 (.bin .add (.t 18) (.t 21)),
  oM 23 (.build [.int .i64 0, .nils, .nils, .nils, .nils, .nils, .nils, .nils, .nils, .nils, .int .i64 0] [(0, 5, (.t 13)), (5, 5, (.t 15)), (10, 1, (.t 22))]),
  oM 24 (.box (.t 23)),
  oT 4 24,
  oM 5 (.mov (cI 0))] (some [[], [], [1], [], [3], [4], [], [6], [7], [5, 8], [0, 2, 9], [10], [11, 2, 0, 1, 2, 3, 4, 5, 6, 7, 8, 9, 10, 11], [12, 0, 1, 2, 3, 4, 5, 6, 7, 8, 9, 10, 11, 12]]))
 (.ret)))
theorem fn21 : env0.fn 21 = some ⟨25, ic21, [.t 4, .t 5]⟩ := by kernel_rfl
set_option maxHeartbeats 4000000 in
set_option maxRecDepth 100000 in
theorem of21 {w0 : World} {N0 : Nat} {c : Ctl} {s : Sta} (h : Ct c) (hs : Ss c s) (H : HS) :
  FT Tryz.prog w0 N0 21 [.agg (cC c), .agg (cS s)] H (fun v H' => ∃ q, v = .tup [.mptr q.m q.sm 0, .int .i64 0] /\ Mc c q s H' /\ Kp (fun _ => False) H H' /\ H.next <= q.m /\ (s.vals ≠ [] -> H.next <= q.iv) /\ (s.tms ≠ [] -> H.next <= q.it)) := by
 have p30 := zqv h hs;have hfi := zf8 h.toSm;obtain ⟨hp, nx, ck⟩ := H;refine zbr env0_ok fn21 [(0, .agg (cC c)), (1, .agg (cS s))] (y04 rfl) rfl ?_;unfold ic21;refine zsr rfl (zcs rfl rfl (zcs rfl rfl ?_));refine zdo ?_;have hlb : Am.look nx ((nx + 1, ck + 1, AObj.cells (cS s)) :: (nx, ck, .cells (cC c)) :: hp) = some (ck, .cells (cC c)) := (za5 (y09 _)).trans za4;have hlb2 : Am.look (nx + 1) ((nx + 1, ck + 1, AObj.cells (cS s)) :: (nx, ck, .cells (cC c)) :: hp) = some (ck + 1, .cells (cS s)) := za4;have hold : ∀ j, j < nx -> Am.look j ((nx + 1, ck + 1, AObj.cells (cS s)) :: (nx, ck, .cells (cC c)) :: hp) = Am.look j hp := fun j hj => (za5 (by show j < nx + 1; omega)).trans (za5 hj)
 refine zb9 rfl hlb (by omega) rfl rfl ?_;refine zb9 rfl hlb2 (by omega) rfl rfl ?_;refine zak rfl rfl p30 noC ?_;refine zbb ?_;show Zm _ _ _ _ _ (st 25 _ ((nx + 1, ck + 1, AObj.cells (cS s)) :: (nx, ck, .cells (cC c)) :: hp) _ _) _ _;generalize ((nx + 1, ck + 1, AObj.cells (cS s)) :: (nx, ck, .cells (cC c)) :: hp) = hp1 at *;have hbx : nx < nx + 1 + 1 := by omega
 have hbx2 : nx + 1 < nx + 1 + 1 := by omega
 refine zlr env0_ok.mix fun rd => ?_;refine zfl (rg21 nx ck c s) [(2, .mptr nx ck 0), (3, .mptr (nx + 1) (ck + 1) 0)] (fun j S => ∃ l hp nx3 ck3 q, S = st 25 l hp nx3 ck3 /\ nx + 1 < nx3 /\ (∀ j, j < nx -> Am.look j hp = Am.look j hp1) /\ (j = 11 -> zac 23 l = some (.agg (mcC c s q))) /\ (j = 12 -> zac 24 l = some (.mptr q.m q.sm 0)) /\ (13 <= j -> zac 4 l = some (.mptr q.m q.sm 0)) /\ (14 <= j -> zac 5 l = some (.int .i64 0)) /\ (12 <= j -> Am.look q.m hp = some (q.sm, .cells (mcC c s q)) /\ nx + 1 < q.m /\ q.m < nx3 /\ (s.vals ≠ [] -> q.iv ≠ q.m) /\ (s.tms ≠ [] -> q.it ≠ q.m)) /\ (s.vals ≠ [] -> Am.look q.iv hp = some (q.sv, .cells (bC s.vals)) /\ nx + 1 < q.iv /\ q.iv < nx3) /\ (s.tms ≠ [] -> Am.look q.it hp = some (q.tt, .cells (zC s.tms)) /\ nx + 1 < q.it /\ q.it < nx3) /\ (s.vals ≠ [] -> s.tms ≠ [] -> q.iv ≠ q.it)) 14 rfl rok21 ?_ ?_ ?_ ?_ ?_ ?_
 ·intro t v ht;rcases y0d.1 ht with e | ht
  ·cases e; rfl
  ·cases y0j.1 ht; rfl
 ·intro j f e nm nm' hp;unfold rg21 at e;dsimp only at e;split at e;all_goals first
   | (cases e; rfl)
   | (cases e; done)
   | (
     cases e;have a := hp 2 (by decide);show AV.agg _ = AV.agg _;rw [a])
 ·intro j hj n1 D l hp' nx' ck' nm lo hi hK hp;have hj : j < 11 := hj
  match j, hj with
   | 0, _ => exact fun go => za7 rfl rfl (zea (hK.bs 2 _ (y01 ..)) ((hK.ol nx hbx).trans hlb) (y0a hbx hK.bx) rfl rfl) go
   | 1, _ => exact fun go => za7 rfl rfl (zea (hK.bs 3 _ (me 1 rfl)) ((hK.ol (nx + 1) hbx2).trans hlb2) (y0a hbx2 hK.bx) rfl rfl) go
   | 2, _ =>
    intro go;refine af_ct (fv := .fn 39 [] []) _ rfl rfl rfl (zdd (hK.q 1 _ (hp 1 (y01 ..)) rfl)) (zk8 (zoy (wv := vsB s.vals) (wt := vsI s.tms) hs.shs ⟨hp', nx', ck'⟩ (.inl rfl) (.inl rfl))) (fun v H _ m hm => absurd hm y07) ?_;rintro v ⟨hp2, nx2, ck2⟩ ⟨n1, s1, n2, s2, rfl, hc⟩;refine go (fun j => match j with | 0 => n1 | 1 => s1 | 2 => n2 | _ => s2) hp2 nx2 ck2 hc.kp.next (fun j hj => hc.kp.look j (fun h => h) hj) ⟨hc.hv, hc.ht, hc.ne⟩
   | 3, _ => exact fun go => za7 rfl rfl (zao (hK.bs 2 _ (y01 ..))) go
   | 4, _ => exact fun go => za7 rfl rfl (zbc (hK.q 3 _ (hp 3 (y01 ..)) rfl) ((hK.ol nx hbx).trans hlb) (y0a hbx hK.bx) rfl) go
   | 5, _ => exact fun go => za7 rfl rfl (g_bin rfl (hK.q 4 _ (hp 4 (y01 ..)) rfl) rfl) go
   | 6, _ => exact fun go => za7 rfl rfl (zao (hK.bs 2 _ (y01 ..))) go
   | 7, _ => exact fun go => za7 rfl rfl (zbc (hK.q 6 _ (hp 6 (y01 ..)) rfl) ((hK.ol nx hbx).trans hlb) (y0a hbx hK.bx) rfl) go
   | 8, _ => exact fun go => za7 rfl rfl (zvo (hK.q 7 _ (hp 7 (y01 ..)) rfl) (congrArg (fun x : Nat => some (AV.int .i64 (x : Int))) (y06 (fun s => [AV.str s])))) go
   | 9, _ => exact fun go => za7 rfl rfl (g_bin (hK.q 5 _ (hp 5 (y01 ..)) rfl) (hK.q 8 _ (hp 8 (me 1 rfl)) rfl) (congrArg (fun x => some (AV.int .i64 x)) hfi)) go
   | 10, _ => exact fun go => za7 rfl rfl (zh6 (parts21 (hK.q 0 _ (hp 0 (y01 ..)) rfl) (hK.lv 2 (hp 2 (me 1 rfl)) rfl) (hK.q 9 _ (hp 9 (me 2 rfl)) rfl)) fill21) go
   | j + 11, h => exact absurd h (by omega)
 ·intro l hp' nx' ck' nm lo hi hK;have m : ∀ j, j < 11 -> j ∈ List.range 11 := fun j hj => y0n.2 hj;obtain ⟨⟨t1, t2, t3⟩, b1, b2⟩ := hK.lh 2 (m 2 (by decide)) rfl;have b1 : nx + 1 + 1 <= lo 2 := b1;refine ⟨l, hp', nx', ck', ⟨0, 0, nm 2 0, nm 2 1, nm 2 2, nm 2 3⟩, rfl, hK.bx, fun j hj => hK.ol j (by show j < nx + 1 + 1; omega), fun _ => hK.q 10 _ (m 10 (by decide)) rfl, fun h => absurd h (by show ¬ 11 = 12; decide), fun h => absurd h (by show ¬ 13 <= 11; decide), fun h => absurd h (by show ¬ 14 <= 11; decide), fun h => absurd h (by show ¬ 12 <= 11; decide), fun e => ⟨(t1 e).1, ?_, ?_⟩, fun e => ⟨(t2 e).1, ?_, ?_⟩, t3⟩
  ·have := (t1 e).2.1; show nx + 1 < nm 2 0; omega
  ·have := (t1 e).2.2; show nm 2 0 < nx'; omega
  ·have := (t2 e).2.1; show nx + 1 < nm 2 2; omega
  ·have := (t2 e).2.2; show nm 2 2 < nx'; omega
 ·rintro j h1 h2 S ⟨l, hp', nx3, ck3, q, rfl, hn3, ho, k1, k2, k3, k4, k5, kv, kt, kn⟩ m1 D go;have h1 : 11 <= j := h1;obtain rfl | rfl | rfl : j = 11 \/ j = 12 \/ j = 13 := by omega
  ·refine za7 rfl rfl (g_box (k1 rfl) rfl) (go _ ⟨_, _, _, _, ⟨nx3, ck3, q.iv, q.sv, q.it, q.tt⟩, rfl, y1c hn3, fun j hj => (za5 (by omega)).trans (ho j hj), fun h => absurd h (by decide), fun _ => rfl, fun h => absurd h (by decide), fun h => absurd h (by decide), fun _ => ⟨za4, hn3, y09 _, fun e => ?_, fun e => ?_⟩, fun e => ⟨(za5 (kv e).2.2).trans (kv e).1, (kv e).2.1, y1c (kv e).2.2⟩, fun e => ⟨(za5 (kt e).2.2).trans (kt e).1, (kt e).2.1, y1c (kt e).2.2⟩, kn⟩)
   ·have := (kv e).2.2; show q.iv ≠ nx3; omega
   ·have := (kt e).2.2; show q.it ≠ nx3; omega
  ·exact za7 rfl rfl (zfa (k2 rfl)) (go _ ⟨_, _, _, _, q, rfl, hn3, ho, fun h => absurd h (by decide), fun h => absurd h (by decide), fun _ => rfl, fun h => absurd h (by decide), fun _ => k5 (by decide), kv, kt, kn⟩)
  ·exact za7 rfl rfl (zfa rfl) (go _ ⟨_, _, _, _, q, rfl, hn3, ho, fun h => absurd h (by decide), fun h => absurd h (by decide), fun _ => k3 (by decide), fun _ => rfl, fun _ => k5 (by decide), kv, kt, kn⟩)
 ·rintro S ⟨l, hp', nx3, ck3, q, rfl, hn3, ho, _, _, k3, k4, k5, kv, kt, kn⟩;obtain ⟨e1, e2, e3, e4, e5⟩ := k5 (by decide);refine Um.ok ?_;refine zaw (zbu ?_);refine zab ⟨.inr rfl, _, ?_, q, rfl, ⟨e1, e3, fun e => ⟨(kv e).1, (kv e).2.2, e4 e⟩, fun e => ⟨(kt e).1, (kt e).2.2, e5 e⟩, kn⟩, ⟨by show nx <= nx3; omega, fun j _ hj => (ho j hj).trans (hold j hj)⟩, by show nx <= q.m; omega, fun e => by have := (kv e).2.1; show nx <= q.iv; omega, fun e => by have := (kt e).2.1; show nx <= q.it; omega⟩
  show AS.res (st 25 l hp' nx3 ck3) [.t 4, .t 5] = _;simp only [AS.res, AS.resL, zc3, k3 (by decide), k4 (by decide)]
theorem zra {a b : Nat} {v w : AV} {l : List (Nat × AV)} (h : zac a l = some v) (h2 : zac b l = some w) : zeh [.t a, .t b] l = some [v, w] := by
 simp only [zeh, zas, h, h2]
theorem argsA3 {a b c : Nat} {v w u : AV} {l : List (Nat × AV)} (h : zac a l = some v) (h2 : zac b l = some w) (h3 : zac c l = some u) : zeh [.t a, .t b, .t c] l = some [v, w, u] := by
 simp only [zeh, zas, h, h2, h3]
theorem parts3 {a b : Nat} {v : Bool} {t : Int} {l : List (Nat × AV)} (h : zac a l = some (.bool v)) (h2 : zac b l = some (.int .i64 t)) : zen [(0, 1, (.t a)), (1, 1, (.t b)), (2, 1, (.c (.bool false)))] l = some [(0, .bool v), (1, .int .i64 t), (2, .bool false)] := by
 simp only [zen, zas, h, h2];rfl
def ios29 : List Opr := [oF 32 1 9, oN 33 32, oM 34 (.idxarr 3 1 (.t 6) (.t 33)), oN 35 34, oT 36 0, oM 37 (.nilchk (.t 36)), oF 38 5 37, oF 39 3 38, oN 40 39, oT 41 8, oM 42 (.idxs 1 (.t 40) (.t 41)), oN 43 42, oT 44 0, oM 45 (.nilchk (.t 44)), oF 46 5 45, oF 47 4 46, oN 48 47, oT 49 8, oM 50 (.idxs 1 (.t 48) (.t 49)), oN 51 50, oM 52 (.build [.bool false, .int .i64 0, .bool false] [(0, 1, (.t 43)), (1, 1, (.t 51)), (2, 1, (.c (.bool false)))]), oF 53 2 9, oL 54 3 53, oT 55 5, oM 56 (.call (.c (.fn 55 [] [])) [(.t 54), (.t 55)]), oF 57 1 9, oN 58 57, oM 59 (.bin .eql (.t 58) (cI 1)), oT 60 59, ⟨(some 61), .faddr 5 (.t 9), some (60, true)⟩, ⟨(some 62), .load (some 3) (.t 61), some (60, true)⟩, ⟨(some 63), .mov (.t 5), some (60, true)⟩, ⟨(some 64), .call (.c (.fn 55 [] [])) [(.t 62), (.t 63)], some (60, true)⟩, oM 65 (.pick (.t 60) (.t 64) (.c (.bool false))), oM 66 (.call (.t 35) [(.t 52), (.t 56), (.t 65)]), oM 10 (.alloc [.bool false, .int .i64 0, .bool false]), ⟨none, .store 3 (.t 10) (.t 66), none⟩]
def pres29 : List (List Nat) := [[], [0], [1], [2], [], [4], [5], [6], [7], [], [8, 9], [10], [], [12], [13], [14], [15], [], [16, 17], [18], [11, 19], [], [21], [], [22, 23], [], [25], [26], [27, 24], [28], [29, 28], [28], [30, 31, 28, 28], [28, 32], [3, 20, 24, 33, 32], [], [35, 34, 34, 0, 1, 2, 3, 4, 5, 6, 7, 8, 9, 10, 11, 12, 13, 14, 15, 16, 17, 18, 19, 20, 21, 22, 23, 24, 25, 26, 27, 28, 29, 30, 31, 32, 33, 34, 35]]
def rul3 : List AV := [.fn 75 [] [], .fn 76 [] [], .fn 77 [] []]
def zgz (c : Ctl) (q : Nms) (bf w : AV) (i nl sl nr sr ng sg : Nat) : List (Nat × AV) := [(0, .mptr q.m q.sm 0), (4, bf), (5, .ms nl sl 1 0 (lnC c) none), (6, .mptr nr sr 0), (7, w), (8, .int .i64 (i : Nat)), (9, .mptr ng sg 0), (25, vsG c.sg), (26, .int .i64 (c.sg.length : Nat)), (27, .int .i64 (i : Nat))]
def rg29 (c : Ctl) (s : Sta) (q : Nms) (i nl sl nr sr ng sg : Nat) (x : Sig) (v : List Bool) (b : Bool) : RegC where
 m := 36
 dst := fun j => match j with | 35 => 10 | j => j + 32
 qv := fun j => match j with
  | 0 => .c fun _ => .mptr ng sg (0 + 1)
  | 1 => .c fun _ => .int .i64 x.kd
  | 2 => .c fun _ => .mptr nr sr (0 + x.kd.toNat * 1)
  | 3 => .c fun _ => .fn (75 + x.kd.toNat) [] []
  | 4 => .c fun _ => .mptr q.m q.sm 0
  | 5 => .c fun _ => .mptr q.m q.sm 0
  | 6 => .c fun _ => .mptr q.m q.sm (0 + 5)
  | 7 => .c fun _ => .mptr q.m q.sm (0 + 5 + 3)
  | 8 => .c fun _ => .ms q.iv q.sv 1 0 s.vals.length none
  | 9 => .c fun _ => .int .i64 (i : Nat)
  | 10 => .c fun _ => .mptr q.iv q.sv (0 + ((i : Nat) : Int).toNat * 1)
  | 11 => .c fun _ => .bool (bA s.vals i)
  | 12 => .c fun _ => .mptr q.m q.sm 0
  | 13 => .c fun _ => .mptr q.m q.sm 0
  | 14 => .c fun _ => .mptr q.m q.sm (0 + 5)
  | 15 => .c fun _ => .mptr q.m q.sm (0 + 5 + 4)
  | 16 => .c fun _ => .ms q.it q.tt 1 0 s.tms.length none
  | 17 => .c fun _ => .int .i64 (i : Nat)
  | 18 => .c fun _ => .mptr q.it q.tt (0 + ((i : Nat) : Int).toNat * 1)
  | 19 => .c fun _ => .int .i64 (zA s.tms i)
  | 20 => .c fun _ => .agg (cCh (bA s.vals i) (zA s.tms i) false)
  | 21 => .c fun _ => .mptr ng sg (0 + 2)
  | 22 => .c fun _ => .agg (c3 x.on)
  | 23 => .c fun _ => .ms nl sl 1 0 (lnC c) none
  | 24 => .c fun _ => .bool (zae v x.on)
  | 25 => .c fun _ => .mptr ng sg (0 + 1)
  | 26 => .c fun _ => .int .i64 x.kd
  | 27 => .c fun _ => .bool b
  | 28 => .c fun _ => .bool b
  | 29 => .c fun _ => cond b (.mptr ng sg (0 + 5)) (.tup [])
  | 30 => .c fun _ => cond b (.agg (c3 x.off)) (.tup [])
  | 31 => .c fun _ => cond b (.ms nl sl 1 0 (lnC c) none) (.tup [])
  | 32 => .c fun _ => cond b (.bool (zae v x.off)) (.tup [])
  | 33 => .c fun _ => .bool (b && zae v x.off)
  | 34 => .c fun _ => rulA x.kd (bA s.vals i) (zA s.tms i) (zae v x.on) (b && zae v x.off)
  | _ => .l
 lw := fun _ x => .mptr (x 0) (x 1) 0
 tl := fun _ x hp lo hi => Am.look (x 0) hp = some (x 1, .cells (cCh false 0 false)) /\ lo <= x 0 /\ x 0 < hi
 st := fun _ _ _ _ _ _ h hk => ⟨(hk _ h.2.2).trans h.1, h.2⟩
theorem rok29 : zhw 36 37 pres29 (fun j => match j with | 35 => 10 | j => j + 32) [0, 4, 5, 6, 7, 8, 9, 25, 26, 27] = true := by kernel_rfl
set_option maxHeartbeats 4000000 in
set_option maxRecDepth 100000 in
theorem reg29 {w0 : World} {N0 : Nat} {c : Ctl} {s : Sta} {q : Nms} {i nl sl nr sr ng sg : Nat} {x : Sig} {v : List Bool} {bf w : AV} {l0 : List (Nat × AV)} {hp0 : List (Nat × Nat × AObj)} {nx0 ck0 : Nat} (hM : Mc c q s ⟨hp0, nx0, ck0⟩) (hvi : i < s.vals.length) (hti : i < s.tms.length) (hkd : x.kd = 0 \/ x.kd = 1 \/ x.kd = 2)
  (hvl : v.length = lnC c) (hon : nds v.length x.on = 0) (hoff : x.kd = 1 -> nds v.length x.off = 0) (hL : Am.look nl hp0 = some (sl, .cells (bC v))) (hnl : nl < nx0) (hR : Am.look nr hp0 = some (sr, .cells rul3)) (hnr : nr < nx0) (hG : Am.look ng hp0 = some (sg, .cells (c10 x))) (hng : ng < nx0)
  (hb0 : ∀ t v, (t, v) ∈ zgz c q bf w i nl sl nr sr ng sg -> zac t l0 = some v) {y : IC} {k : List Fr} {Q : Exit -> AS -> Prop}
  (go : ∀ hp nx ck n10 s10, nx0 <= n10 -> n10 < nx -> (∀ j, j < nx0 -> Am.look j hp = Am.look j hp0) -> Am.look n10 hp = some (s10, .cells (cCh (rul x.kd (bA s.vals i) (zA s.tms i) (zae v x.on) (decide (x.kd = 1) && zae v x.off)).1 (rul x.kd (bA s.vals i) (zA s.tms i) (zae v x.on) (decide (x.kd = 1) && zae v x.off)).2.1 (rul x.kd (bA s.vals i) (zA s.tms i) (zae v x.on) (decide (x.kd = 1) && zae v x.off)).2.2)) ->
   Zm Tryz.prog w0 N0 (some none) y (st 105 ((10, .mptr n10 s10 0) :: zgz c q bf w i nl sl nr sr ng sg) hp nx ck) k Q) :
  Zm Tryz.prog w0 N0 (some none) (.region ios29 (some pres29)) (st 105 l0 hp0 nx0 ck0) (.seq y :: k) Q := by
 have hvne : s.vals ≠ [] := fun e => by rw [e] at hvi; exact absurd hvi (y1b _)
 have htne : s.tms ≠ [] := fun e => by rw [e] at hti; exact absurd hti (y1b _)
 have hk3 : decide (0 <= x.kd /\ x.kd < ((3 : Nat) : Int)) = true := by rcases hkd with e | e | e <;> rw [e] <;> rfl
 have hdr : rul3.drop (0 + x.kd.toNat * 1) = .fn (75 + x.kd.toNat) [] [] :: rul3.drop (x.kd.toNat + 1) := by rcases hkd with e | e | e <;> rw [e] <;> rfl
 have hdv : (bC s.vals).drop (0 + ((i : Nat) : Int).toNat * 1) = .bool (bA s.vals i) :: (bC s.vals).drop (i + 1) := by
  rw [show 0 + ((i : Nat) : Int).toNat * 1 = i by simp, y0t (by rw [zdf]; exact hvi)]
  unfold bC;rw [List.getElem_map, zll hvi]
 have hdt : (zC s.tms).drop (0 + ((i : Nat) : Int).toNat * 1) = .int .i64 (zA s.tms i) :: (zC s.tms).drop (i + 1) := by
  rw [show 0 + ((i : Nat) : Int).toNat * 1 = i by simp, y0t (by unfold zC; rw [y06]; exact hti)]
  unfold zC;rw [List.getElem_map, zol hti]
 have hm8 : (mcC c s q).drop (0 + 5 + 3) = .ms q.iv q.sv 1 0 s.vals.length none :: [wtA true s.tms q.it q.tt, .int .i64 (fsC c : Nat)] := by
  show wvA s.vals q.iv q.sv :: _ = _;rw [zlg hvne]
 have hm9 : (mcC c s q).drop (0 + 5 + 4) = .ms q.it q.tt 1 0 s.tms.length none :: [.int .i64 (fsC c : Nat)] := by
  show wtA true s.tms q.it q.tt :: _ = _;rw [zj1 htne]
 have pon := zr0 v _ x.on (y08 _) hon;have poff : x.kd = 1 -> PF Tryz.prog 55 [.agg (cX x.off), vsB v] (.bool (zae v x.off)) := fun e => zr0 v _ x.off (y08 _) (hoff e);rw [zif] at pon poff;have prl : ∀ a t on off, PF Tryz.prog (75 + x.kd.toNat) [.agg (cCh a t false), .bool on, .bool off] (rulA x.kd a t on off) := fun a t on off => by
  rcases hkd with e | e | e <;> rw [e]
  ·exact rule75 a t on off
  ·exact rule76 a t on off
  ·exact rule77 a t on off
 obtain ⟨b, hb⟩ : ∃ b, b = decide (x.kd = 1) := ⟨_, rfl⟩
 have hbb : Am.binOp .eql (.int .i64 x.kd) (.int .i64 1) = some (.bool b) := by rw [hb]; rfl
 have poff : b = true -> PF Tryz.prog 55 [.agg (c3 x.off), vsB v] (.bool (zae v x.off)) := fun e => poff (of_decide_eq_true (hb.symm.trans e));rw [<- hb] at go;refine zlr env0_ok.mix fun rd => ?_;refine zfl (rg29 c s q i nl sl nr sr ng sg x v b) (zgz c q bf w i nl sl nr sr ng sg) (fun j S => ∃ l hp nx ck n10 s10, S = st 105 l hp nx ck /\ (∀ t v, (t, v) ∈ zgz c q bf w i nl sl nr sr ng sg -> zac t l = some v) /\ zac 10 l = some (.mptr n10 s10 0) /\ nx0 <= n10 /\ n10 < nx /\ (∀ j, j < nx0 -> Am.look j hp = Am.look j hp0) /\ (j = 36 -> Am.look n10 hp = some (s10, .cells (cCh false 0 false)) /\ zac 66 l = some (rulA x.kd (bA s.vals i) (zA s.tms i) (zae v x.on) (b && zae v x.off))) /\
  (j = 37 -> Am.look n10 hp = some (s10, .cells (cCh (rul x.kd (bA s.vals i) (zA s.tms i) (zae v x.on) (b && zae v x.off)).1 (rul x.kd (bA s.vals i) (zA s.tms i) (zae v x.on) (b && zae v x.off)).2.1 (rul x.kd (bA s.vals i) (zA s.tms i) (zae v x.on) (b && zae v x.off)).2.2)))) 37 rfl rok29 hb0 ?_ ?_ ?_ ?_ ?_
 ·intro j f e nm nm' hp;unfold rg29 at e;dsimp only at e;split at e;all_goals first
   | (cases e; rfl)
   | (cases e; done)
 ·intro j hj n1 D l hp' nx' ck' nm lo hi hK hp;have hj : j < 36 := hj
  match j, hj with
   | 0, _ =>
    exact fun go => za7 rfl rfl (zao (hK.bs 9 _ (me 6 rfl))) go
   | 1, _ =>
    exact fun go => za7 rfl rfl (zbc (hK.q 0 _ (hp 0 (y01 ..)) rfl) ((hK.ol _ hng).trans hG) (y0a hng hK.bx) rfl) go
   | 2, _ =>
    exact fun go => za7 rfl rfl (zp1 (hK.bs 6 _ (me 3 rfl)) (hK.q 1 _ (hp 1 (y01 ..)) rfl) hk3) go
   | 3, _ =>
    exact fun go => za7 rfl rfl (zbc (hK.q 2 _ (hp 2 (y01 ..)) rfl) ((hK.ol _ hnr).trans hR) (y0a hnr hK.bx) hdr) go
   | 4, _ =>
    exact fun go => za7 rfl rfl (zfa (hK.bs 0 _ (y01 ..))) go
   | 5, _ =>
    exact fun go => za7 rfl rfl (zvr (hK.q 4 _ (hp 4 (y01 ..)) rfl)) go
   | 6, _ =>
    exact fun go => za7 rfl rfl (zao (hK.q 5 _ (hp 5 (y01 ..)) rfl)) go
   | 7, _ =>
    exact fun go => za7 rfl rfl (zao (hK.q 6 _ (hp 6 (y01 ..)) rfl)) go
   | 8, _ =>
    exact fun go => za7 rfl rfl (zbc (hK.q 7 _ (hp 7 (y01 ..)) rfl) ((hK.ol _ hM.lm).trans hM.hm) (y0a hM.lm hK.bx) hm8) go
   | 9, _ =>
    exact fun go => za7 rfl rfl (zfa (hK.bs 8 _ (me 5 rfl))) go
   | 10, _ =>
    exact fun go => za7 rfl rfl (znn (hK.q 8 _ (hp 8 (y01 ..)) rfl) (hK.q 9 _ (hp 9 (me 1 rfl)) rfl) (y0z _) (by omega)) go
   | 11, _ =>
    exact fun go => za7 rfl rfl (zbc (hK.q 10 _ (hp 10 (y01 ..)) rfl) ((hK.ol _ (hM.hv hvne).2.1).trans (hM.hv hvne).1) (y0a (hM.hv hvne).2.1 hK.bx) hdv) go
   | 12, _ =>
    exact fun go => za7 rfl rfl (zfa (hK.bs 0 _ (y01 ..))) go
   | 13, _ =>
    exact fun go => za7 rfl rfl (zvr (hK.q 12 _ (hp 12 (y01 ..)) rfl)) go
   | 14, _ =>
    exact fun go => za7 rfl rfl (zao (hK.q 13 _ (hp 13 (y01 ..)) rfl)) go
   | 15, _ =>
    exact fun go => za7 rfl rfl (zao (hK.q 14 _ (hp 14 (y01 ..)) rfl)) go
   | 16, _ =>
    exact fun go => za7 rfl rfl (zbc (hK.q 15 _ (hp 15 (y01 ..)) rfl) ((hK.ol _ hM.lm).trans hM.hm) (y0a hM.lm hK.bx) hm9) go
   | 17, _ =>
    exact fun go => za7 rfl rfl (zfa (hK.bs 8 _ (me 5 rfl))) go
   | 18, _ =>
    exact fun go => za7 rfl rfl (znn (hK.q 16 _ (hp 16 (y01 ..)) rfl) (hK.q 17 _ (hp 17 (me 1 rfl)) rfl) (y0z _) (by omega)) go
   | 19, _ =>
    exact fun go => za7 rfl rfl (zbc (hK.q 18 _ (hp 18 (y01 ..)) rfl) ((hK.ol _ (hM.ht htne).2.1).trans (hM.ht htne).1) (y0a (hM.ht htne).2.1 hK.bx) hdt) go
   | 20, _ =>
    exact fun go => za7 rfl rfl (zh6 (parts3 (hK.q 11 _ (hp 11 (y01 ..)) rfl) (hK.q 19 _ (hp 19 (me 1 rfl)) rfl)) rfl) go
   | 21, _ =>
    exact fun go => za7 rfl rfl (zao (hK.bs 9 _ (me 6 rfl))) go
   | 22, _ =>
    exact fun go => za7 rfl rfl (zea (hK.q 21 _ (hp 21 (y01 ..)) rfl) ((hK.ol _ hng).trans hG) (y0a hng hK.bx) rfl rfl) go
   | 23, _ =>
    exact fun go => za7 rfl rfl (zfa (hK.bs 5 _ (me 2 rfl))) go
   | 24, _ =>
    exact fun go => zn0 rfl rfl rfl rfl (zra (hK.q 22 _ (hp 22 (y01 ..)) rfl) (hK.q 23 _ (hp 23 (me 1 rfl)) rfl)) (by show [_, AS.view _ VD (.ms nl sl 1 0 (lnC c) none)] = _; rw [show VD = (VD - 1) + 1 from rfl, zbv v hvl ((hK.ol _ hnl).trans hL)]; rfl) pon (fun _ => rfl) go
   | 25, _ =>
    exact fun go => za7 rfl rfl (zao (hK.bs 9 _ (me 6 rfl))) go
   | 26, _ =>
    exact fun go => za7 rfl rfl (zbc (hK.q 25 _ (hp 25 (y01 ..)) rfl) ((hK.ol _ hng).trans hG) (y0a hng hK.bx) rfl) go
   | 27, _ =>
    exact fun go => za7 rfl rfl (g_bin (hK.q 26 _ (hp 26 (y01 ..)) rfl) rfl hbb) go
   | 28, _ =>
    exact fun go => za7 rfl rfl (zfa (hK.q 27 _ (hp 27 (y01 ..)) rfl)) go
   | 29, _ =>
    cases b with
    | false => exact fun go => zn1 rfl rfl (hK.q 28 _ (hp 28 (y01 ..)) rfl) rfl go
    | true => exact fun go => zu9 rfl rfl (hK.q 28 _ (hp 28 (y01 ..)) rfl) rfl (zao (hK.bs 9 _ (me 6 rfl))) go
   | 30, _ =>
    cases b with
    | false => exact fun go => zn1 rfl rfl (hK.q 28 _ (hp 28 (me 1 rfl)) rfl) rfl go
    | true => exact fun go => zu9 rfl rfl (hK.q 28 _ (hp 28 (me 1 rfl)) rfl) rfl (zea (hK.q 29 _ (hp 29 (y01 ..)) rfl) ((hK.ol _ hng).trans hG) (y0a hng hK.bx) rfl rfl) go
   | 31, _ =>
    cases b with
    | false => exact fun go => zn1 rfl rfl (hK.q 28 _ (hp 28 (y01 ..)) rfl) rfl go
    | true => exact fun go => zu9 rfl rfl (hK.q 28 _ (hp 28 (y01 ..)) rfl) rfl (zfa (hK.bs 5 _ (me 2 rfl))) go
   | 32, _ =>
    cases b with
    | false => exact fun go => zn1 rfl rfl (hK.q 28 _ (hp 28 (me 2 rfl)) rfl) rfl go
    | true => exact fun go => zn0 rfl rfl (zoi (hK.q 28 _ (hp 28 (me 2 rfl)) rfl)) rfl (zra (hK.q 30 _ (hp 30 (y01 ..)) rfl) (hK.q 31 _ (hp 31 (me 1 rfl)) rfl)) (by show [_, AS.view _ VD (.ms nl sl 1 0 (lnC c) none)] = _; rw [show VD = (VD - 1) + 1 from rfl, zbv v hvl ((hK.ol _ hnl).trans hL)]; rfl) (poff rfl) (fun _ => rfl) go
   | 33, _ =>
    cases b with
    | false => exact fun go => za7 rfl rfl (zvs (hK.q 28 _ (hp 28 (y01 ..)) rfl) rfl) go
    | true => exact fun go => za7 rfl rfl (zvt (hK.q 28 _ (hp 28 (y01 ..)) rfl) (hK.q 32 _ (hp 32 (me 1 rfl)) rfl)) go
   | 34, _ =>
    exact fun go => zn0 rfl rfl rfl (hK.q 3 _ (hp 3 (y01 ..)) rfl) (argsA3 (hK.q 20 _ (hp 20 (me 1 rfl)) rfl) (hK.q 24 _ (hp 24 (me 2 rfl)) rfl) (hK.q 33 _ (hp 33 (me 3 rfl)) rfl)) rfl (prl _ _ _ _) noC go
   | 35, _ => exact fun go => za7 rfl rfl zh5 (go (fun j => match j with | 0 => nx' | _ => ck') _ _ _ (y0x _) (fun j hj => za5 hj) ⟨za4, y08 _, y09 _⟩)
   | j + 36, h => exact absurd h (by omega)
 ·intro l hp' nx' ck' nm lo hi hK;have m : ∀ j, j < 36 -> j ∈ List.range 36 := fun j hj => y0n.2 hj;obtain ⟨⟨t1, t2, t3⟩, b1, b2⟩ := hK.lh 35 (m 35 (by decide)) rfl;exact ⟨l, hp', nx', ck', nm 35 0, nm 35 1, rfl, hK.bs, hK.lv 35 (m 35 (by decide)) rfl, y0s b1 t2, y0a t3 b2, hK.ol, fun _ => ⟨t1, hK.q 34 _ (m 34 (by decide)) rfl⟩, fun h => absurd h (by show ¬ 36 = 37; decide)⟩
 ·rintro j h1 h2 S ⟨l, hp', nx3, ck3, n10, s10, rfl, hbs, l10, k1, k2, ho, k3, _⟩ m1 D go;have h1 : 36 <= j := h1;obtain rfl : j = 36 := by omega
  obtain ⟨k3, q5⟩ := k3 rfl;refine zg4 rfl (ze4 l10 q5 rfl rfl k3 rfl rfl) (go _ ⟨l, _, _, _, n10, s10, rfl, hbs, l10, k1, k2, fun j hj => ?_, fun h => absurd h (by decide), fun _ => ?_⟩)
  ·rw [za0, if_neg (by omega)]; exact ho j hj
  ·rw [za0, if_pos rfl]; rfl
 ·rintro S ⟨l, hp', nx3, ck3, n10, s10, rfl, hbs, l10, k1, k2, ho, _, k4⟩;refine Um.ok (zaw (zlh (md := some none) (zb2 ?_) (go hp' nx3 ck3 n10 s10 k1 k2 ho (k4 rfl))));exact .cons l10 (.cons (hbs _ _ (y01 ..)) (.cons (hbs _ _ (me 1 rfl)) (.cons (hbs _ _ (me 2 rfl)) (.cons (hbs _ _ (me 3 rfl)) (.cons (hbs _ _ (me 4 rfl)) (.cons (hbs _ _ (me 5 rfl)) (.cons (hbs _ _ (me 6 rfl)) (.cons (hbs _ _ (me 7 rfl)) (.cons (hbs _ _ (me 8 rfl)) (.cons (hbs _ _ (me 9 rfl)) (.nil)))))))))))
set_option maxRecDepth 100000
def putR (s : Sta) (i : Nat) (b : Bool) (t : Int) : Sta := ⟨s.en, s.va, s.inp, s.vals.set i b, s.tms.set i t⟩
theorem wtA_len {v w : List Int} {n s : Nat} (h : v.length = w.length) : wtA true v n s = wtA true w n s := by
 by_cases e : v = []
 ·have e2 : w = [] := y0l.1 (by rw [<- h, e]; rfl);rw [e, e2]
 ·exact wtA_same h e
theorem zC_set (v : List Int) (i : Nat) (b : Int) : (zC v).set i (.int .i64 b) = zC (v.set i b) := by
 unfold zC;rw [List.map_set]
theorem zmw (v : List Int) : (zC v).length = v.length := y06 ..
theorem Mc.putR {c : Ctl} {q : Nms} {s : Sta} {hp : List (Nat × Nat × AObj)} {nx ck : Nat} (h : Mc c q s ⟨hp, nx, ck⟩) (hv : s.vals ≠ []) (ht : s.tms ≠ []) (i : Nat) (b : Bool) (t : Int) :
  Mc c q (putR s i b t) ⟨zau q.it (q.tt, .cells ((zC s.tms).set i (.int .i64 t))) (zau q.iv (q.sv, .cells ((bC s.vals).set i (.bool b))) hp), nx, ck⟩ := by
 obtain ⟨a1, a2, a3⟩ := h.hv hv;obtain ⟨b1, b2, b3⟩ := h.ht ht;refine ⟨?_, h.lm, fun _ => ⟨?_, a2, a3⟩, fun _ => ⟨?_, b2, b3⟩, fun _ _ => h.ne hv ht⟩
 ·rw [za0, if_neg b3, za0, if_neg a3];have : mcC c (Go.Proofs.YtdolbghhcijonaaGreat.putR s i b t) q = mcC c s q := by
   unfold mcC Go.Proofs.YtdolbghhcijonaaGreat.putR;rw [zsy (y1t ..), wtA_len (y1t ..)]
  rw [this];exact h.hm
 ·rw [za0, if_neg fun e => h.ne hv ht e.symm, za0, if_pos rfl, zj4];rfl
 ·rw [za0, if_pos rfl, zC_set];rfl
def ios29b : List Opr := [oT 67 0, oM 68 (.nilchk (.t 67)), oF 69 5 68, oF 70 3 69, oN 71 70, oT 72 8, oT 73 0, oM 74 (.nilchk (.t 73)), oF 75 5 74, oF 76 4 75, oN 77 76, oT 78 8, oF 79 0 10, oN 80 79, oF 81 1 10, oN 82 81, oM 83 (.idxs 1 (.t 71) (.t 72)), ⟨none, .store 1 (.t 83) (.t 80), none⟩, oM 84 (.idxs 1 (.t 77) (.t 78)), ⟨none, .store 1 (.t 84) (.t 82), none⟩]
def pres29b : List (List Nat) := [[], [0], [1], [2], [3], [], [], [6], [7], [8], [9], [], [], [12], [], [14], [4, 5, 0, 1, 2, 3, 4, 5, 10, 12, 13], [16, 13, 0, 1, 2, 3, 4, 5, 10, 12, 13], [10, 11, 0, 1, 2, 3, 4, 5, 6, 7, 8, 9, 10, 11, 12, 13, 14, 15, 16, 17], [18, 15, 17, 0, 1, 2, 3, 4, 5, 6, 7, 8, 9, 10, 11, 12, 13, 14, 15, 16, 17]]
set_option maxHeartbeats 4000000 in
set_option maxRecDepth 100000 in
theorem put29 {w0 : World} {N0 : Nat} {c : Ctl} {s : Sta} {q : Nms} {i nl sl nr sr ng sg n10 s10 : Nat} {b f : Bool} {t : Int} {bf w : AV} {hp : List (Nat × Nat × AObj)} {nx ck : Nat} (hM : Mc c q s ⟨hp, nx, ck⟩) (hvi : i < s.vals.length) (hti : i < s.tms.length)
  (h10 : Am.look n10 hp = some (s10, .cells (cCh b t f))) (hn : n10 < nx) (hd : n10 ≠ q.iv /\ n10 ≠ q.it) {y : IC} {k : List Fr} {Q : Exit -> AS -> Prop}
  (go : Zm Tryz.prog w0 N0 (some none) y (st 105 ((10, .mptr n10 s10 0) :: zgz c q bf w i nl sl nr sr ng sg) (zau q.it (q.tt, .cells ((zC s.tms).set i (.int .i64 t))) (zau q.iv (q.sv, .cells ((bC s.vals).set i (.bool b))) hp)) nx ck) k Q) :
  Zm Tryz.prog w0 N0 (some none) (.region ios29b (some pres29b)) (st 105 ((10, .mptr n10 s10 0) :: zgz c q bf w i nl sl nr sr ng sg) hp nx ck) (.seq y :: k) Q := by
 have hvne : s.vals ≠ [] := fun e => by rw [e] at hvi; exact absurd hvi (y1b _)
 have htne : s.tms ≠ [] := fun e => by rw [e] at hti; exact absurd hti (y1b _)
 obtain ⟨v1, v2, v3⟩ := hM.hv hvne;obtain ⟨t1, t2, t3⟩ := hM.ht htne;have hne := hM.ne hvne htne;have hm8 : (mcC c s q).drop (0 + 5 + 3) = .ms q.iv q.sv 1 0 s.vals.length none :: [wtA true s.tms q.it q.tt, .int .i64 (fsC c : Nat)] := by
  show wvA s.vals q.iv q.sv :: _ = _;rw [zlg hvne]
 have hm9 : (mcC c s q).drop (0 + 5 + 4) = .ms q.it q.tt 1 0 s.tms.length none :: [.int .i64 (fsC c : Nat)] := by
  show wtA true s.tms q.it q.tt :: _ = _;rw [zj1 htne]
 have ez : 0 + ((i : Nat) : Int).toNat * 1 = i := by simp
 have l1 : (Nat.beq q.m q.m || Nat.beq q.m n10) = true := by rw [y2i]; rfl
 have l2 : (Nat.beq n10 q.m || Nat.beq n10 n10) = true := by rw [y2i n10, Bool.or_true]
 have s1 : (Nat.beq q.iv q.iv || Nat.beq q.iv q.it) = true := by rw [y2i]; rfl
 have s2 : (Nat.beq q.it q.iv || Nat.beq q.it q.it) = true := by rw [y2i q.it, Bool.or_true]
 have hdis : ∀ j, (Nat.beq j q.m || Nat.beq j n10) = true -> (Nat.beq j q.iv || Nat.beq j q.it) = true -> False := fun j h1 h2 => by
  rw [y0v, zfx, zfx] at h1 h2;rcases h1 with rfl | rfl <;> rcases h2 with h2 | h2
  ·exact v3 h2.symm
  ·exact t3 h2.symm
  ·exact hd.1 h2
  ·exact hd.2 h2
 refine zju env0_ok [] (fun _ hx => absurd hx y07) (fun _ => false) (fun j => Nat.beq j q.m || Nat.beq j n10) (fun j => Nat.beq j q.iv || Nat.beq j q.it) hdis rfl rfl rfl ?_;unfold zgz;refine ggh0 ?_;refine zaf rfl hM.hm hM.lm hm8 ?_ (ldOk rfl l1);refine ggh0 ?_;refine zaf rfl hM.hm hM.lm hm9 ?_ (ldOk rfl l1);refine ggh0 ?_;refine zaf rfl h10 hn rfl ?_ (ldOk rfl l2);repeat (first | refine zah rfl ?_)
 refine zaf rfl h10 hn rfl ?_ (ldOk rfl l2);refine zgd rfl rfl (y0z _) (by omega) ?_;rw [ez];refine zcv (id := q.iv) (sp := q.sv) (off := i) (cs := bC s.vals) rfl rfl rfl v1 (by rw [zdf]; exact hvi) rfl ?_ (sdOk rfl s1);refine zgd rfl rfl (y0z _) (by omega) ?_;rw [ez];refine zcv (id := q.it) (sp := q.tt) (off := i) (cs := zC s.tms) rfl rfl rfl (by rw [za0, if_neg hne]; exact t1) (by rw [zmw]; exact hti) rfl ?_ (sdOk rfl s2);refine zb1 ?_;refine zaw (zlh (md := some none) (zb2 ?_) go);unfold zgz;exact .cons rfl (.cons rfl (.cons rfl (.cons rfl (.cons rfl (.cons rfl (.cons rfl (.cons rfl (.cons rfl (.cons rfl (.cons rfl (.nil)))))))))))
set_option maxRecDepth 100000
def rl (c : Ctl) (ln : List Bool) (s : Sta) (i : Nat) : Bool × Int × Bool := rul (sgA c.sg i).kd (bA s.vals i) (zA s.tms i) (zae ln (sgA c.sg i).on) (decide ((sgA c.sg i).kd = 1) && zae ln (sgA c.sg i).off)
def rnd (c : Ctl) (ln : List Bool) (s : Sta) : Nat -> Sta
 | 0 => s
 | k + 1 => putR (rnd c ln s k) k (rl c ln (rnd c ln s k) k).1 (rl c ln (rnd c ln s k) k).2.1
def cnf (c : Ctl) (ln : List Bool) (s : Sta) : Nat -> List Int
 | 0 => []
 | k + 1 => cnf c ln s k ++ if (rl c ln (rnd c ln s k) k).2.2 = true then [((fsC c + k : Nat) : Int)] else []
def zbm (c : Ctl) (s : Sta) : Sta := rnd c (zco (zay c s)) (zay c s) c.sg.length
def zj9 (c : Ctl) (s : Sta) : List Int := cnf c (zco (zay c s)) (zay c s) c.sg.length
theorem zix (c : Ctl) (ln : List Bool) (s : Sta) : ∀ k, (rnd c ln s k).vals.length = s.vals.length /\ (rnd c ln s k).tms.length = s.tms.length /\ (rnd c ln s k).en = s.en /\ (rnd c ln s k).va = s.va /\ (rnd c ln s k).inp = s.inp
 | 0 => ⟨rfl, rfl, rfl, rfl, rfl⟩
 | k + 1 => by
  obtain ⟨a, b, d, e, f⟩ := zix c ln s k;refine ⟨?_, ?_, d, e, f⟩
  ·show (List.set _ _ _).length = _;rw [y1t, a]
  ·show (List.set _ _ _).length = _;rw [y1t, b]
theorem zq4 (c : Ctl) (ln : List Bool) (s : Sta) : ∀ k, (cnf c ln s k).length <= k
 | 0 => y08 _
 | k + 1 => by
  have := zq4 c ln s k;unfold cnf;rw [y0o];split
  ·show _ + 1 <= _; omega
  ·show _ + 0 <= _; omega
theorem zrt {c : Ctl} {s : Sta} (h : Sms s) : Sms (zay c s) := ⟨h.e, h.v, h.i, by show (zeb c s).length <= 200; unfold zeb; rw [zds]; exact h.b, h.t⟩
theorem zhl (l : List Int) : ∀ e ∈ (l.map fun z => ([.int .i64 z] : List AV)), e.length = 1 := fun x hx => by obtain ⟨_, _, rfl⟩ := y0p.1 hx; rfl
theorem Mc.arB {c : Ctl} {q : Nms} {s : Sta} {H : HS} (h : Mc c q s H) : ArB s.vals (wvA s.vals q.iv q.sv) H.heap H.next := by
 by_cases e : s.vals = []
 ·exact .inl (by unfold wvA; rw [if_pos e, e])
 ·exact .inr ⟨e, q.iv, q.sv, zlg e, (h.hv e).1, (h.hv e).2.1⟩
theorem Mc.arI {c : Ctl} {q : Nms} {s : Sta} {H : HS} (h : Mc c q s H) : ArI s.tms (wtA true s.tms q.it q.tt) H.heap H.next := by
 by_cases e : s.tms = []
 ·exact .inl (by unfold wtA; rw [if_neg (fun h => h.2 e), e])
 ·exact .inr ⟨e, q.it, q.tt, zj1 e, (h.ht e).1, (h.ht e).2.1⟩
theorem Gq.lower {sz b b' nx : Nat} {es : List (List AV)} {w : AV} {hp : List (Nat × Nat × AObj)} (h : Gq sz b es w hp nx) (hb : b' <= b) : Gq sz b' es w hp nx := by
 rcases h with h | ⟨id, sp, e, hl, h1, h2⟩
 ·exact .inl h
 ·exact .inr ⟨id, sp, e, hl, by omega, h2⟩
theorem Mc.keepB {c : Ctl} {q : Nms} {s : Sta} {H H' : HS} {b : Nat} (h : Mc c q s H) (h1 : q.m < b) (h2 : q.iv < b) (h3 : q.it < b) (hn : b <= H'.next) (hk : ∀ j, j < b -> Am.look j H'.heap = Am.look j H.heap) : Mc c q s H' :=
 ⟨(hk _ h1).trans h.hm, y0a h1 hn, fun e => ⟨(hk _ h2).trans (h.hv e).1, y0a h2 hn, (h.hv e).2.2⟩, fun e => ⟨(hk _ h3).trans (h.ht e).1, y0a h3 hn, (h.ht e).2.2⟩, h.ne⟩
def b29_0 : IC := sR [oM 28 (.bin .lss (.t 27) (.t 26))]
 (.seq (.cond (.t 28) (.skip)
 (.exit 0))
 (.seq (.block 1 (sR [oT 29 27,
  oM 30 (.idxs 10 (.t 25) (.t 27)),
  oL 31 10 30,
  oM 9 (.alloc [.str [], .int .i64 0, .int .i64 0, .int .i64 0, .nils, .int .i64 0, .int .i64 0, .nils, .int .i64 0, .bool false]),
  oT 8 29,
  ⟨none, .store 10 (.t 9) (.t 31), none⟩]
 (.seq (.region [oF 32 1 9,
  oN 33 32,
  oM 34 (.idxarr 3 1 (.t 6) (.t 33)),
  oN 35 34,
  oT 36 0,
  oM 37 (.nilchk (.t 36)),
  oF 38 5 37,
  oF 39 3 38,
  oN 40 39,
  oT 41 8,
  oM 42 (.idxs 1 (.t 40) (.t 41)),
  oN 43 42,
  oT 44 0,
  oM 45 (.nilchk (.t 44)),
  oF 46 5 45,
  oF 47 4 46,
  oN 48 47,
  oT 49 8,
  oM 50 (.idxs 1 (.t 48) (.t 49)),
  oN 51 50,
  oM 52 (.build [.bool false, .int .i64 0, .bool false] [(0, 1, (.t 43)), (1, 1, (.t 51)), (2, 1, (.c (.bool false)))]),
  oF 53 2 9,
  oL 54 3 53,
  oT 55 5,
  oM 56 (.call (.c (.fn 55 [] [])) [(.t 54), (.t 55)]),
  oF 57 1 9,
  oN 58 57,
  oM 59 (.bin .eql (.t 58) (cI 1)),
  oT 60 59,
  ⟨(some 61), .faddr 5 (.t 9), some (60, true)⟩,
  ⟨(some 62), .load (some 3) (.t 61), some (60, true)⟩,
  ⟨(some 63), .mov (.t 5), some (60, true)⟩,
  ⟨(some 64), .call (.c (.fn 55 [] [])) [(.t 62), (.t 63)], some (60, true)⟩,
  oM 65 (.pick (.t 60) (.t 64) (.c (.bool false))),
  oM 66 (.call (.t 35) [(.t 52), (.t 56), (.t 65)]),
  oM 10 (.alloc [.bool false, .int .i64 0, .bool false]),
  ⟨none, .store 3 (.t 10) (.t 66), none⟩] (some [[], [0], [1], [2], [], [4], [5], [6], [7], [], [8, 9], [10], [], [12], [13], [14], [15], [], [16, 17], [18], [11, 19], [], [21], [], [22, 23], [], [25], [26], [27, 24], [28], [29, 28], [28], [30, 31, 28, 28], [28, 32], [3, 20, 24, 33, 32], [], [35, 34, 34, 0, 1, 2, 3, 4, 5, 6, 7, 8, 9, 10, 11, 12, 13, 14, 15, 16, 17, 18, 19, 20, 21, 22, 23, 24, 25, 26, 27, 28, 29, 30, 31, 32, 33, 34, 35]]))
 (.seq (.region [oT 67 0,
  oM 68 (.nilchk (.t 67)),
  oF 69 5 68,
  oF 70 3 69,
  oN 71 70,
  oT 72 8,
  oT 73 0,
  oM 74 (.nilchk (.t 73)),
  oF 75 5 74,
  oF 76 4 75,
  oN 77 76,
  oT 78 8,
  oF 79 0 10,
  oN 80 79,
  oF 81 1 10,
  oN 82 81,
  oM 83 (.idxs 1 (.t 71) (.t 72)),
  ⟨none, .store 1 (.t 83) (.t 80), none⟩,
  oM 84 (.idxs 1 (.t 77) (.t 78)),
  ⟨none, .store 1 (.t 84) (.t 82), none⟩] (some [[], [0], [1], [2], [3], [], [], [6], [7], [8], [9], [], [], [12], [], [14], [4, 5, 0, 1, 2, 3, 4, 5, 10, 12, 13], [16, 13, 0, 1, 2, 3, 4, 5, 10, 12, 13], [10, 11, 0, 1, 2, 3, 4, 5, 6, 7, 8, 9, 10, 11, 12, 13, 14, 15, 16, 17], [18, 15, 17, 0, 1, 2, 3, 4, 5, 6, 7, 8, 9, 10, 11, 12, 13, 14, 15, 16, 17]]))
 (sR [oF 85 2 10,
  oN 86 85]
 (.cond (.t 86) (.region [oT 87 7,
  oT 88 0,
  oM 89 (.nilchk (.t 88)),
  oF 90 10 89,
  oN 91 90,
  oT 92 8,
  oM 93 (.bin .add (.t 91) (.t 92)),
  oM 94 (.bslice 1 1 [.int .i64 0] [(0, 1, (.t 93))]),
  oM 95 (.append 1 8 [.int .i64 0] (.t 87) (.t 94)),
  oT 7 95] none)
 (.skip)))))))
 (.region [oM 96 (.bin .add (.t 27) (cI 1)),
  oT 27 96] none)))
-- (*pneumatic/settle.machine).round
def ic29 : IC := sR [oM 2 (.mov (.c (.bool false))),
  oM 3 (.mov (.c (.nils)))]
 (sR [oT 11 0,
  oM 12 (.nilchk (.t 11)),
  oF 13 5 12,
  oL 14 5 13,
  oM 15 (.call (.c (.fn 39 [] [])) [(.t 14)]),
  oM 4 (.alloc [.nils, .nils, .nils, .nils, .nils]),
  ⟨none, .store 5 (.t 4) (.t 15), none⟩]
 (sR [oT 16 0,
  oM 17 (.call (.c (.fn 52 [] [])) [(.t 16)])]
 (sR [oT 18 0,
  oM 19 (.call (.c (.fn 53 [] [])) [(.t 18)]),
  oM 20 (.call (.c (.fn 54 [] [])) []),
  oM 6 (.alloc [.nilf, .nilf, .nilf]),
  oT 5 19,
  ⟨none, .store 3 (.t 6) (.t 20), none⟩]
 (sR [oM 7 (.mov (.c (.nils)))]
 (.seq (sR [oT 21 0,
  oM 22 (.nilchk (.t 21)),
  oF 23 0 22,
  oF 24 2 23,
  oN 25 24,
  oM 26 (.len false (.t 25)),
  oM 27 (.mov (cI 0))]
 (.block 0 (.loop b29_0)))
 (.seq (.region [oL 97 5 4,
  oT 98 0,
  oM 99 (.nilchk (.t 98)),
  oF 100 5 99,
  oL 101 5 100,
  oM 102 (.call (.c (.fn 56 [] [])) [(.t 97), (.t 101)]),
  oM 103 (.un .not (.t 102)),
  oT 104 7,
  oT 2 103,
  oT 3 104] (some [[], [], [1], [2], [3], [0, 4], [5], [], [6, 5, 0, 1, 2, 3, 4, 5, 6], [7, 8, 0, 1, 2, 3, 4, 5, 6, 7, 8]]))
 (.ret)))))))
theorem fn29 : env0.fn 29 = some ⟨105, ic29, [.t 2, .t 3]⟩ := by kernel_rfl
set_option maxHeartbeats 8000000 in
set_option maxRecDepth 100000 in
theorem zww {w0 : World} {N0 : Nat} {c : Ctl} {s : Sta} {q : Nms} (h : Ct c) (hs : Ss c s) (H : HS) (hM : Mc c q s H) (hiv : q.iv < H.next) (hit : q.it < H.next) :
  FT Tryz.prog w0 N0 29 [.mptr q.m q.sm 0] H (fun v H' => ∃ w, v = .tup [.bool (!steB s (zbm c s)), w] /\ Mc c q (zbm c s) H' /\ Kp (fun j => j = q.iv \/ j = q.it) H H' /\ Gq 1 H.next ((zj9 c s).map fun z => [.int .i64 z]) w H'.heap H'.next) := by
 have hg := ze7 c.sg;obtain ⟨k1, k2, k3, k4, k5⟩ := hs.sh;have a1 := h.a1;have a6 := h.a6;have s16 := h.s16;have i16 := h.i16;have hfs100 : fsC c <= 100 := by unfold fsC; omega
 have p53 := zw6 (c := c) (zrt (c := c) hs.toSms) (by show 1 <= s.en.length; omega)
 have hsg : (zay c s).vals.length = s.vals.length := by show (zeb c s).length = _; unfold zeb; rw [zds]
 have hal : (zco (zay c s)).length = lnC c := by
  show (ze0 s.en s.inp ++ zeb c s).length = _;rw [y0o, zfr];have : (zeb c s).length = s.vals.length := hsg;unfold lnC fsC;omega
 have hrS : zbm c s = rnd c (zco (zay c s)) (zay c s) c.sg.length := rfl;have hrC : zj9 c s = cnf c (zco (zay c s)) (zay c s) c.sg.length := rfl;have p56 := same56 s (zbm c s) hs.toSms.shs;obtain ⟨hp0, nx0, ck0⟩ := H;refine zbr env0_ok fn29 [(0, .mptr q.m q.sm 0)] (y04 rfl) rfl ?_;unfold ic29;refine zji ?_;refine zb9 rfl hM.hm hM.lm rfl rfl ?_;refine zjn _ rfl rfl (zk8 (zoy (wv := wvA s.vals q.iv q.sv) (wt := wtA true s.tms q.it q.tt) hs.toSms.shs ⟨hp0, nx0, ck0⟩ (hM.arB) (hM.arI))) (fun _ _ _ _ hm => absurd hm y07) ?_;rintro v ⟨hp1, nx1, ck1⟩ ⟨n1, s1, n2, s2, rfl, hc⟩;have hM1 := hM.keep hc.kp.next (fun j hj => hc.kp.look j (fun h => h) hj);repeat (first | refine zc1 ?_)
 refine zaj rfl rfl rfl rfl za4 rfl (by show ([vsI s.en, vsB s.va, vsB s.inp, wvA s.vals n1 s1, wtA true s.tms n2 s2] : List AV).all AV.isCell = true; simp only [y1h, y2h, zfi, zgu]; rfl) ?_
 rw [zbz];refine zhj ?_;have hM2 := hM1.new (ck1, .cells [vsI s.en, vsB s.va, vsB s.inp, wvA s.vals n1 s1, wtA true s.tms n2 s2]) (ck1 + 1);refine zjn _ rfl rfl (zk8 (gates52 h hs ⟨_, _, _⟩ hM2)) (fun _ _ _ _ hm => absurd hm y07) ?_;rintro v ⟨hp2, nx2, ck2⟩ ⟨hM3, hk3⟩;refine zhj ?_;refine zwi rfl (congrArg (fun x => [x]) (zxj hM3)) p53 (zde _) ?_;refine zak rfl rfl rules54 noC ?_;refine zil ?_;refine zaj rfl rfl rfl rfl za4 rfl rfl ?_;rw [zbz];have hM4 := (hM3.new (ck2, .cells (bC (zco (zay c s)))) (ck2 + 1)).new (ck2 + 1, .cells rul3) (ck2 + 1 + 1);refine zji ?_;refine zaf rfl hM4.hm hM4.lm rfl ?_;refine zil ?_;have hM4 : Mc c q (zay c s) ⟨(nx2 + 1, ck2 + 1, AObj.cells rul3) :: (nx2, ck2, .cells (bC (zco (zay c s)))) :: hp2, nx2 + 1 + 1, ck2 + 1 + 1⟩ := hM4;have hq1 : q.m < nx0 := hM.lm;have hqv : q.iv < nx0 := hiv;have hqt : q.it < nx0 := hit;have hn1 : nx0 <= nx1 := hc.kp.next;have hn2 : nx1 + 1 <= nx2 := hk3.next;have hlL : Am.look nx2 ((nx2 + 1, ck2 + 1, AObj.cells rul3) :: (nx2, ck2, .cells (bC (zco (zay c s)))) :: hp2) = some (ck2, .cells (bC (zco (zay c s)))) := (za5 (y09 _)).trans za4;have hlR : Am.look (nx2 + 1) ((nx2 + 1, ck2 + 1, AObj.cells rul3) :: (nx2, ck2, .cells (bC (zco (zay c s)))) :: hp2) = some (ck2 + 1, .cells rul3) := za4;have hkv : ∀ j, j < nx1 + 1 -> j ≠ q.iv -> Am.look j ((nx2 + 1, ck2 + 1, AObj.cells rul3) :: (nx2, ck2, .cells (bC (zco (zay c s)))) :: hp2) = Am.look j ((nx1, ck1, AObj.cells [vsI s.en, vsB s.va, vsB s.inp, wvA s.vals n1 s1, wtA true s.tms n2 s2]) :: hp1) := fun j hj hne =>
  (za5 (by omega)).trans ((za5 (by omega)).trans (hk3.look j hne hj))
 have hlB : Am.look nx1 ((nx2 + 1, ck2 + 1, AObj.cells rul3) :: (nx2, ck2, .cells (bC (zco (zay c s)))) :: hp2) = some (ck1, .cells [vsI s.en, vsB s.va, vsB s.inp, wvA s.vals n1 s1, wtA true s.tms n2 s2]) := (hkv nx1 (y09 _) (by omega)).trans za4;have hlV : s.vals ≠ [] -> Am.look n1 ((nx2 + 1, ck2 + 1, AObj.cells rul3) :: (nx2, ck2, .cells (bC (zco (zay c s)))) :: hp2) = some (s1, .cells (bC s.vals)) /\ nx0 <= n1 /\ n1 < nx1 := fun e => by
  obtain ⟨b1, b2, b3⟩ := hc.hv e;have b2 : nx0 <= n1 := b2;have b3 : n1 < nx1 := b3;exact ⟨(hkv n1 (by omega) (by omega)).trans ((za5 (by omega)).trans b1), b2, b3⟩
 have hlT : s.tms ≠ [] -> Am.look n2 ((nx2 + 1, ck2 + 1, AObj.cells rul3) :: (nx2, ck2, .cells (bC (zco (zay c s)))) :: hp2) = some (s2, .cells (zC s.tms)) /\ nx0 <= n2 /\ n2 < nx1 := fun e => by
  obtain ⟨b1, b2, b3⟩ := hc.ht e;have b2 : nx0 <= n2 := b2;have b3 : n2 < nx1 := b3;exact ⟨(hkv n2 (by omega) (by omega)).trans ((za5 (by omega)).trans b1), b2, b3⟩
 have hk0 : Kp (fun j => j = q.iv \/ j = q.it) ⟨hp0, nx0, ck0⟩ ⟨(nx2 + 1, ck2 + 1, AObj.cells rul3) :: (nx2, ck2, .cells (bC (zco (zay c s)))) :: hp2, nx2 + 1 + 1, ck2 + 1 + 1⟩ := by
  refine ⟨by show nx0 <= nx2 + 1 + 1; omega, fun j hj hlt => ?_⟩
  have hlt : j < nx0 := hlt;exact (hkv j (by omega) (fun e => hj (.inl e))).trans ((za5 (by omega)).trans (hc.kp.look j (fun h => h) hlt))
 have hrl := zix c (zco (zay c s)) (zay c s);have hcl := zq4 c (zco (zay c s)) (zay c s);have hg1 : (zay c s).vals.length = c.sg.length := hsg.trans k4;have hg2 : (zay c s).tms.length = c.sg.length := k5;have hgx : (zay c s).en = s.en /\ (zay c s).va = s.va /\ (zay c s).inp = s.inp := ⟨rfl, rfl, rfl⟩
 rw [hal];rw [hrC, hrS];rw [hrS] at p56;generalize zco (zay c s) = ln at *;generalize zay c s = g at *;show Zm _ _ _ _ _ (st 105 _ ((nx2 + 1, ck2 + 1, AObj.cells rul3) :: (nx2, ck2, .cells (bC ln)) :: hp2) (nx2 + 1 + 1) (ck2 + 1 + 1)) _ _;generalize ((nx2 + 1, ck2 + 1, AObj.cells rul3) :: (nx2, ck2, .cells (bC ln)) :: hp2) = hpL at *;generalize hnL : nx2 + 1 + 1 = nxL at *;generalize ck2 + 1 + 1 = ckL at *;refine zav (fun mm S => ∃ (i : Nat) (hp : List (Nat × Nat × AObj)) (nx ck : Nat) (w : AV), mm = c.sg.length - i /\ i <= c.sg.length /\ Mc c q (rnd c ln g i) ⟨hp, nx, ck⟩ /\ Gq 1 nxL ((cnf c ln g i).map fun z => [.int .i64 z]) w hp nx /\ Kp (fun j => j = q.iv \/ j = q.it) ⟨hpL, nxL, ckL⟩ ⟨hp, nx, ck⟩ /\ S = st 105 [(0, .mptr q.m q.sm 0), (4, .mptr nx1 ck1 0), (5, .ms nx2 ck2 1 0 (lnC c) none), (6, .mptr (nx2 + 1) (ck2 + 1) 0), (7, w), (25, vsG c.sg), (26, .int .i64 (c.sg.length : Nat)), (27, .int .i64 (i : Nat))] hp nx ck) c.sg.length
  (zb2 (.cons rfl (.cons rfl (.cons rfl (.cons rfl (.cons rfl (.cons rfl (.cons (by rw [<- hg]; rfl) (.cons rfl .nil))))))))) ⟨0, _, _, _, _, rfl, y0q _, hM4, .inl ⟨rfl, rfl⟩, Kp.refl _ _, rfl⟩ ?_
 ·rintro mm S ⟨i, hp, nx, ck, w, rfl, hi, hMi, hGi, hKi, rfl⟩;unfold b29_0 vsG;refine zhj ?_;refine za3 rfl rfl rfl (fun h3 => ?_) fun h3 => ?_
  ·have hlt : i < c.sg.length := y1r.1 (of_decide_eq_true h3);have hge := zdn hlt;have hnx : nxL <= nx := hKi.next;have hcf : cnf c ln g (i + 1) = cnf c ln g i ++ if (rl c ln (rnd c ln g i) i).2.2 = true then [((fsC c + i : Nat) : Int)] else [] := rfl
   have hrn : rnd c ln g (i + 1) = putR (rnd c ln g i) i (rl c ln (rnd c ln g i) i).1 (rl c ln (rnd c ln g i) i).2.1 := rfl;have hcl1 := hcl i;have w1 := za9 i (by omega);have w2 : IntKind.wrap .i64 (((fsC c : Nat) : Int) + (i : Nat)) = ((fsC c + i : Nat) : Int) := by rw [zbe _ (by omega) (by omega)]; omega
   have hkd := h.kd i hlt;have hon := zhr (h.on i hlt);have hof := fun e => zhr (h.off i hlt e);obtain ⟨hr1, hr2, _⟩ := hrl i;have hM5 := hMi.new (ck, .cells (c10 (sgA c.sg i))) (ck + 1);have hkn : ∀ j, j < nxL -> (j ≠ q.iv /\ j ≠ q.it) -> Am.look j ((nx, ck, AObj.cells (c10 (sgA c.sg i))) :: hp) = Am.look j hpL := fun j hj hne => (za5 (by omega)).trans (hKi.look j (fun e => e.elim hne.1 hne.2) hj);refine zil ?_;refine zaj rfl rfl rfl rfl za4 rfl rfl ?_;rw [zbz];refine zhj ?_;refine reg29 (q := q) (c := c) (x := sgA c.sg i) (v := ln) (i := i) (nl := nx2) (sl := ck2) (nr := nx2 + 1) (sr := ck2 + 1) (ng := nx) (sg := ck) (bf := .mptr nx1 ck1 0) (w := w) hM5 (by omega) (by omega) hkd hal (by rw [hal]; exact hon) (fun e => by rw [hal]; exact hof e) ((hkn nx2 (by omega) ⟨by omega, by omega⟩).trans hlL) (by omega) ((hkn (nx2 + 1) (by omega) ⟨by omega, by omega⟩).trans hlR) (by omega) za4 (y09 _) (fun t v ht => KeepA.get (by unfold zgz; exact .cons rfl (.cons rfl (.cons rfl (.cons rfl (.cons rfl (.cons rfl (.cons rfl (.cons rfl (.cons rfl (.cons rfl .nil)))))))))) (t, v) ht) ?_;intro hp3 nx3 ck3 n10 s10 e1 e2 e3 e4;have e4 : Am.look n10 hp3 = some (s10, .cells (cCh (rl c ln (rnd c ln g i) i).1 (rl c ln (rnd c ln g i) i).2.1 (rl c ln (rnd c ln g i) i).2.2)) := e4;have hM6 := hM5.keep (H' := ⟨hp3, nx3, ck3⟩) (by show nx + 1 <= nx3; omega) e3
   have hG6 : Gq 1 nxL ((cnf c ln g i).map fun z => [.int .i64 z]) w hp3 nx3 := hGi.of (by omega) fun j h1 h2 => (e3 j (by omega)).trans (za5 h2);refine zb3 (put29 hM6 (by omega) (by omega) e4 e2 ⟨by omega, by omega⟩ ?_);have hM7 := hM6.putR (fun e => by rw [e] at hr1; simp at hr1; omega) (fun e => by rw [e] at hr2; simp at hr2; omega) i (rl c ln (rnd c ln g i) i).1 (rl c ln (rnd c ln g i) i).2.1;rw [<- hrn] at hM7;have hG7 : ∀ a b, Gq 1 nxL ((cnf c ln g i).map fun z => [.int .i64 z]) w (zau q.it a (zau q.iv b hp3)) nx3 := fun a b => hG6.of (y08 _) fun j h1 h2 => by rw [za0, if_neg (by omega), za0, if_neg (by omega)]
   have hK7 : ∀ a b ck', Kp (fun j => j = q.iv \/ j = q.it) ⟨hpL, nxL, ckL⟩ ⟨zau q.it a (zau q.iv b hp3), nx3, ck'⟩ := fun a b ck' => ⟨by show nxL <= nx3; omega, fun j hj hlt => by
    have hlt : j < nxL := hlt;rw [za0, if_neg (fun e => hj (.inr e.symm)), za0, if_neg (fun e => hj (.inl e.symm)), e3 j (by omega)];exact hkn j hlt ⟨fun e => hj (.inl e), fun e => hj (.inr e)⟩⟩
   have h10 : ∀ a b, Am.look n10 (zau q.it a (zau q.iv b hp3)) = some (s10, .cells (cCh (rl c ln (rnd c ln g i) i).1 (rl c ln (rnd c ln g i) i).2.1 (rl c ln (rnd c ln g i) i).2.2)) := fun a b => by rw [za0, if_neg (by omega), za0, if_neg (by omega)]; exact e4
   have hG8 := hG7 (q.tt, AObj.cells ((zC (rnd c ln g i).tms).set i (.int .i64 (rl c ln (rnd c ln g i) i).2.1))) (q.sv, AObj.cells ((bC (rnd c ln g i).vals).set i (.bool (rl c ln (rnd c ln g i) i).1)));have hK8 := hK7 (q.tt, AObj.cells ((zC (rnd c ln g i).tms).set i (.int .i64 (rl c ln (rnd c ln g i) i).2.1))) (q.sv, AObj.cells ((bC (rnd c ln g i).vals).set i (.bool (rl c ln (rnd c ln g i) i).1)));have h10 := h10 (q.tt, AObj.cells ((zC (rnd c ln g i).tms).set i (.int .i64 (rl c ln (rnd c ln g i) i).2.1))) (q.sv, AObj.cells ((bC (rnd c ln g i).vals).set i (.bool (rl c ln (rnd c ln g i) i).1)));generalize zau q.it (q.tt, AObj.cells ((zC (rnd c ln g i).tms).set i (.int .i64 (rl c ln (rnd c ln g i) i).2.1))) (zau q.iv (q.sv, AObj.cells ((bC (rnd c ln g i).vals).set i (.bool (rl c ln (rnd c ln g i) i).1))) hp3) = hp4 at *;unfold zgz;refine zhj ?_;refine zaf rfl h10 e2 rfl ?_;refine zhj ?_;generalize rl c ln (rnd c ln g i) i = R at *;obtain ⟨r1, r2, r3⟩ := R;cases r3 with
   | true =>
    have hcf : cnf c ln g (i + 1) = cnf c ln g i ++ [((fsC c + i : Nat) : Int)] := hcf;refine zji ?_;refine zaf rfl hM7.hm hM7.lm rfl ?_;refine zgw ?_;rw [w2];refine zkx (sz := 1) (b := nxL) [[.int .i64 ((fsC c + i : Nat) : Int)]] (hG8.fresh ck3 _) (zhl _) rfl rfl (zew (xs := [[.int .i64 ((fsC c + i : Nat) : Int)]]) (ys := []) za4 rfl fun x hx => by obtain rfl := y0j.1 hx; rfl) rfl (by decide) (by omega) (by rw [y06]; show _ + 1 <= _; omega) ?_
    intro w' hp5 nx5 ck5 hG9 hn5 hk5;have hk5 : ∀ j, j < nxL -> Am.look j hp5 = Am.look j hp4 := fun j hj => (hk5 j hj).trans (za5 (by omega));refine zlj ?_;rw [w1];have hG9 : Gq 1 nxL ((cnf c ln g (i + 1)).map fun z => [.int .i64 z]) w' hp5 nx5 := by rw [hcf, y11]; exact hG9
    have hK8 := hK8 ck3;exact zad (show c.sg.length - (i + 1) < c.sg.length - i by omega) skp ⟨i + 1, hp5, nx5, ck5, w', rfl, hlt, hM7.keepB (b := nxL) (by omega) (by omega) (by omega) (by show nxL <= nx5; omega) hk5, hG9, ⟨by show nxL <= nx5; omega, fun j hj hlt => (hk5 j hlt).trans (hK8.look j hj hlt)⟩, rfl⟩
   | false =>
    have hcf : cnf c ln g (i + 1) = cnf c ln g i := hcf.trans (y0u _);refine zlj ?_;rw [w1];exact zad (show c.sg.length - (i + 1) < c.sg.length - i by omega) skp ⟨i + 1, _, _, _, _, rfl, hlt, hM7, by rw [hcf]; exact hG8, hK8 _, rfl⟩
  ·have hie : i = c.sg.length := by
    have h4 : ¬ ((i : Nat) : Int) < (c.sg.length : Nat) := of_decide_eq_false h3;omega
   subst hie;have hnx : nxL <= nx := hKi.next;have hkn : ∀ j, j < nxL -> (j ≠ q.iv /\ j ≠ q.it) -> Am.look j hp = Am.look j hpL := fun j hj hne => hKi.look j (fun e => e.elim hne.1 hne.2) hj;refine zfj ?_;refine zbp ?_;refine zfj ?_;refine zc2 env0_ok _ (hL1 p56) (fun g => Nat.beq g 56) rfl rfl rfl ?_;refine zb9 rfl ((hkn nx1 (by omega) ⟨by omega, by omega⟩).trans hlB) (by omega) rfl rfl ?_;refine zji ?_;refine zb9 rfl hMi.hm hMi.lm rfl rfl ?_;refine zak rfl ?_ zap (fun _ => rfl) ?_
   ·show [AS.view _ VD (.agg [vsI s.en, vsB s.va, vsB s.inp, wvA s.vals n1 s1, wtA true s.tms n2 s2]), AS.view _ VD (.agg [vsI (rnd c ln g c.sg.length).en, vsB (rnd c ln g c.sg.length).va, vsB (rnd c ln g c.sg.length).inp, wvA (rnd c ln g c.sg.length).vals q.iv q.sv, wtA true (rnd c ln g c.sg.length).tms q.it q.tt])] = _;rw [show VD = (VD - 2) + 2 from rfl, zi7 (s := s) (fun d => zoh (fun e => (hkn n1 (by have := (hlV e).2.2; omega) ⟨by have := (hlV e).2.1; omega, by have := (hlV e).2.1; omega⟩).trans (hlV e).1) d) (fun d => zog (fun e => (hkn n2 (by have := (hlT e).2.2; omega) ⟨by have := (hlT e).2.1; omega, by have := (hlT e).2.1; omega⟩).trans (hlT e).1) d), zi7 (fun d => zoh (fun e => (hMi.hv e).1) d) (fun d => zog (fun e => (hMi.ht e).1) d)]
   ·refine zfj ?_;exact zab ⟨.inr rfl, _, rfl, w, rfl, hMi, hk0.trans hKi, hGi.lower (by show nx0 <= nxL; omega)⟩
theorem zos (v : List Bool) {i j : Nat} (b : Bool) (h : i < v.length) : bA (v.set i b) j = if i = j then b else bA v j := by
 unfold bA;rw [y0k, y0k, List.getElem?_set];split
 ·rename_i e;subst e;rfl
 ·rfl
theorem zA_set (v : List Int) {i j : Nat} (b : Int) (h : i < v.length) : zA (v.set i b) j = if i = j then b else zA v j := by
 unfold zA;rw [y0k, y0k, List.getElem?_set];split
 ·rename_i e;subst e;rfl
 ·rfl
theorem zsm (c : Ctl) (ln : List Bool) (s : Sta) : ∀ (k : Nat), k <= s.vals.length -> k <= s.tms.length -> ∀ j, bA (rnd c ln s k).vals j = (if j < k then (rl c ln s j).1 else bA s.vals j) /\ zA (rnd c ln s k).tms j = (if j < k then (rl c ln s j).2.1 else zA s.tms j)
 | 0, _, _, j => ⟨rfl, rfl⟩
 | k + 1, hv, ht, j => by
  have ih := zsm c ln s k (by omega) (by omega);obtain ⟨l1, l2, _⟩ := zix c ln s k;have hk := ih k;rw [if_neg (y23 _), if_neg (y23 _)] at hk;have hr : rl c ln (rnd c ln s k) k = rl c ln s k := by
   unfold rl;rw [hk.1, hk.2]
  show bA (List.set _ _ _) j = _ /\ zA (List.set _ _ _) j = _;rw [zos _ _ (by omega), zA_set _ _ (by omega), hr];by_cases e : k = j
  ·subst e;rw [if_pos rfl, if_pos rfl, if_pos (y09 _), if_pos (y09 _)];exact ⟨rfl, rfl⟩
  ·rw [if_neg e, if_neg e, (ih j).1, (ih j).2];by_cases h : j < k
   ·rw [if_pos h, if_pos h, if_pos (by omega), if_pos (by omega)];exact ⟨rfl, rfl⟩
   ·rw [if_neg h, if_neg h, if_neg (by omega), if_neg (by omega)];exact ⟨rfl, rfl⟩
theorem zrs (pre : List Bool) (sg : List Sig) (v : List Bool) (j : Nat) (h : (sgA sg j).kd ≠ 0) : ∀ k, k <= v.length -> bA (gat pre sg v k) j = bA v j
 | 0, _ => rfl
 | k + 1, hk => by
  have ih := zrs pre sg v j h k (by omega);have hgs : gat pre sg v (k + 1) = if (sgA sg k).kd = 0 then (gat pre sg v k).set k (zae (pre ++ gat pre sg v k) (sgA sg k).on) else gat pre sg v k := rfl
  rw [hgs];split
  ·rename_i e;rw [zos _ _ (by rw [zds]; omega), if_neg, ih];intro e2;subst e2;exact h e
  ·exact ih
theorem zik {c : Ctl} {s : Sta} (hs : Ss c s) : Ss c (zay c s) := by
 obtain ⟨k1, k2, k3, k4, k5⟩ := hs.sh;refine ⟨zrt hs.toSms, ⟨k1, k2, k3, ?_, k5⟩, hs.e4, hs.t3, fun j hj => ?_⟩
 ·show (gat _ _ _ _).length = _;rw [zds, k4]
 ·have hj : j < s.tms.length := hj;have := hs.tk j hj;show tkB (sgA c.sg j) (bA (zeb c s) j) (zA s.tms j) = true;unfold tkB at this ⊢;by_cases e : (sgA c.sg j).kd = 2
  ·rw [if_pos e] at this ⊢;unfold zeb;rw [zrs _ _ _ _ (by omega) _ (by omega)];exact this
  ·rw [if_neg e] at this ⊢;exact this
theorem rnd_ss {c : Ctl} {s : Sta} (ln : List Bool) (hs : Ss c s) : Ss c (rnd c ln s c.sg.length) := by
 obtain ⟨k1, k2, k3, k4, k5⟩ := hs.sh;obtain ⟨l1, l2, l3, l4, l5⟩ := zix c ln s c.sg.length;have hat := zsm c ln s c.sg.length (by omega) (by omega);have hrl : ∀ j, j < c.sg.length -> (0 <= (rl c ln s j).2.1 /\ (rl c ln s j).2.1 < 3) /\ tkB (sgA c.sg j) (rl c ln s j).1 (rl c ln s j).2.1 = true := fun j hj => by
  have h1 := hs.t3 j (by omega);have h2 := hs.tk j (by omega);unfold rl rul;unfold tkB at h2 ⊢;generalize zA s.tms j = t at *;generalize bA s.vals j = b at *;generalize (sgA c.sg j).kd = kd at *;by_cases e1 : kd = 1
  ·subst e1;rw [if_pos rfl];exact ⟨h1, h2⟩
  ·rw [if_neg e1];by_cases e2 : kd = 2
   ·subst e2;rw [if_pos rfl] at h2 ⊢;split
    ·dsimp only;by_cases e3 : t = 0
     ·subst e3;rw [if_pos rfl];refine ⟨⟨by decide, by decide⟩, ?_⟩;have : b = false := by cases b with | false => rfl | true => exact absurd h2 (by decide)
      subst this;rfl
     ·rw [if_neg e3];exact ⟨h1, h2⟩
    ·exact ⟨⟨by show (0 : Int) <= 0; decide, by show (0 : Int) < 3; decide⟩, rfl⟩
   ·rw [if_neg e2];exact ⟨h1, h2⟩
 refine ⟨⟨by rw [l3]; exact hs.e, by rw [l4]; exact hs.v, by rw [l5]; exact hs.i, by rw [l1]; exact hs.b, by rw [l2]; exact hs.t⟩, ⟨by rw [l3]; exact k1, by rw [l4]; exact k2, by rw [l5]; exact k3, by rw [l1]; exact k4, by rw [l2]; exact k5⟩, by rw [l3]; exact hs.e4, fun j hj => ?_, fun j hj => ?_⟩
 ·rw [l2] at hj;rw [(hat j).2, if_pos (by omega)];exact (hrl j (by omega)).1
 ·rw [l2] at hj;rw [(hat j).1, (hat j).2, if_pos (by omega), if_pos (by omega)];exact (hrl j (by omega)).2
theorem zsn {c : Ctl} {s : Sta} (hs : Ss c s) : Ss c (zbm c s) := rnd_ss _ (zik hs)
def itS (c : Ctl) (s : Sta) : Nat -> Sta
 | 0 => s
 | n + 1 => zbm c (itS c s n)
def itC (c : Ctl) (s : Sta) : Nat -> List Int
 | 0 => []
 | n + 1 => itC c s n ++ zj9 c (itS c s n)
theorem it_ss {c : Ctl} {s : Sta} (hs : Ss c s) : ∀ n, Ss c (itS c s n)
 | 0 => hs
 | n + 1 => zsn (it_ss hs n)
theorem zmq (c : Ctl) (s : Sta) : (zj9 c s).length <= c.sg.length := zq4 ..
theorem zqj (c : Ctl) (s : Sta) : ∀ n, (itC c s n).length <= n * c.sg.length
 | 0 => by show 0 <= _; omega
 | n + 1 => by
  have h1 := zqj c s n;have h2 := zmq c (itS c s n);show (itC c s n ++ zj9 c (itS c s n)).length <= _;rw [y0o, y20];omega
set_option maxRecDepth 100000
def iR : IC -> IC
 | .seq _ b => b
 | .cond _ _ e => e
 | .block _ b => b
 | .loop b => b
 | x => x
def iL : IC -> IC
 | .seq a _ => a
 | .cond _ a _ => a
 | x => x
noncomputable def icOf (f : FuncId) : IC := match env0.fn f with
 | some i => i.ic
 | none => .skip
noncomputable def rs41 : IC := iR (iR (icOf 41))
noncomputable def ic41 : IC := sR [oM 2 (.mov (.c (.nils)))]
 (.seq (sR [oT 6 0,
  oM 7 (.len false (.t 6)),
  oM 8 (.bin .lss (.t 7) (cI 2))]
 (.cond (.t 8) (sR [oT 9 0,
  oT 2 9]
 (.ret))
 (.skip))) rs41)
theorem fn41 : env0.fn 41 = some ⟨61, ic41, [.t 2]⟩ := by kernel_rfl
theorem zv2 : PF Tryz.prog 41 [.vs []] (.vs []) := by
 refine za6 env0_ok fn41 [(0, .vs [])] (y04 rfl) rfl fun w0 N0 => ?_;unfold ic41;refine zbf ?_;exact uE
noncomputable def rs91 : IC := iR (iR (iR (iR (icOf 91))))
noncomputable def bd91 : IC := .seq (sR [oT 10 6,
  oT 11 2,
  oM 12 (.bin .lss (.t 10) (.t 11))]
 (.cond (.t 12) (.skip)
 (.exit 0))) rs91
noncomputable def ic91 : IC := sR [oT 8 1,
  oM 9 (.bin .add (.t 8) (cI 1)),
  oT 6 9] (.block 0 (.loop bd91))
theorem fn91 : env0.fn 91 = some ⟨49, ic91, []⟩ := by kernel_rfl
theorem insert91 : PF Tryz.prog 91 [.vs [], .int .i64 0, .int .i64 0] (.tup []) := by
 refine za6 env0_ok fn91 [(0, .vs []), (1, .int .i64 0), (2, .int .i64 0)] (y04 rfl) rfl fun w0 N0 => ?_;unfold ic91;refine zbf ?_;refine zav (fun mm S => mm = 0 /\ S = st 49 [(2, .int .i64 0), (6, .int .i64 1)] [] 0 0) 0 skp ⟨rfl, rfl⟩ ?_;rintro mm S ⟨rfl, rfl⟩;unfold bd91;refine zbf ?_;refine zbp ?_;refine zbf ?_;exact zab ⟨.inl rfl, _, rfl, rfl⟩
noncomputable def zxf (k : Nat) : IC := iL (iR (iL (match k with
 | 0 => iR (icOf 101)
 | 1 => iR (iR (icOf 101))
 | _ => iR (iR (iR (icOf 101))))))
noncomputable def ic101 : IC := sR [oM 2 (.mov (cI 0))]
 (.seq (sR [oT 3 0,
  oM 4 (.bin .geq (.t 3) (.c (.int .u64 4294967296)))]
 (.cond (.t 4) (zxf 0) (.skip)))
 (.seq (sR [oT 7 0,
  oM 8 (.bin .geq (.t 7) (.c (.int .u64 65536)))]
 (.cond (.t 8) (zxf 1) (.skip)))
 (.seq (sR [oT 13 0,
  oM 14 (.bin .geq (.t 13) (.c (.int .u64 256)))]
 (.cond (.t 14) (zxf 2) (.skip)))
 (sR [oT 19 2,
  oT 20 0,
  oM 21 (.conv .u8 (.t 20)),
  oM 22 (.idxstr (.c (.str (0 :: 1 :: (List.replicate 2 2 ++ List.replicate 4 3 ++ List.replicate 8 4 ++ List.replicate 16 5 ++ List.replicate 32 6 ++ List.replicate 64 7 ++ List.replicate 128 8)))) (.t 21)),
  oM 23 (.conv .i64 (.t 22)),
  oM 24 (.bin .add (.t 19) (.t 23)),
  oT 2 24]
 (.ret)))))
theorem fn101 : env0.fn 101 = some ⟨25, ic101, [.t 2]⟩ := by kernel_rfl
theorem len101 : PF Tryz.prog 101 [.int .u64 0] (.int .i64 0) := by
 refine za6 env0_ok fn101 [(0, .int .u64 0)] (y04 rfl) rfl fun w0 N0 => ?_;unfold ic101;repeat (first | refine zb3 ?_ | refine za8 rfl ?_ | refine zb1 ?_ | refine zaw ?_ | refine zff ?_ | refine zba ?_ | refine zbg ?_ | refine zgv rfl ?_ | refine zfw rfl ?_ | refine zg0 ?_ | refine zbu ?_ | refine zer ?_ | refine zcn ?_ | refine zja rfl ?_ | refine zaz ?_ | refine zbs ?_ | refine zic rfl ?_ | refine zon rfl rfl ?_ | refine o_gt rfl ?_ | refine zan rfl ?_ | refine zb0 rfl rfl ?_ | refine zb6 rfl rfl rfl rfl ?_ | refine zaj rfl rfl rfl rfl rfl rfl rfl ?_ | refine zah rfl ?_ | refine zbo rfl rfl rfl ?_ | refine zgc rfl rfl rfl ?_ | refine zpg rfl rfl rfl rfl ?_ | refine zc1 ?_ | refine zce rfl rfl ?_ | refine zbl rfl rfl ?_ | refine zu0 rfl rfl ?_ | refine zdb rfl rfl ?_ | refine zit rfl rfl ?_ | refine zcq rfl rfl ?_ | refine zcs rfl rfl ?_ | refine zph rfl rfl rfl ?_ | refine zo1 rfl rfl ?_ | refine zs8 rfl rfl rfl rfl ?_ | refine zhu rfl rfl rfl rfl ?_ | refine zsd rfl rfl rfl rfl ?_ | refine zwh rfl rfl ?_ | refine zmj rfl rfl ?_ | refine zem rfl rfl ?_ | refine o_lenc ?_ | refine zi9 env0_ok rfl rfl rfl ?_ | refine zb5 (op := .add) rfl rfl rfl ?_ | refine zb5 (op := .sub) rfl rfl rfl ?_ | refine zsb rfl rfl rfl ?_ | refine zsa rfl rfl rfl ?_ | refine zmi rfl rfl rfl ?_ | refine zfz rfl rfl rfl ?_ | refine zc8 rfl rfl (by omega) (by assumption) rfl ?_ | refine zgc rfl rfl (decide_eq_true ⟨by omega, by omega⟩) ?_ | refine zgd rfl rfl (by omega) (by omega) ?_ | refine zsc rfl rfl rfl ?_ | refine zky rfl ?_ | refine zj7 rfl ?_ | refine o_ixs rfl rfl (y0z _) (by assumption) ?_ | refine zb5 (op := .mul) rfl rfl rfl ?_ | refine zak rfl rfl (by assumption) noC ?_ | refine zak rfl rfl zap noC ?_ | refine zak rfl rfl (zc7 (by decide) zap) noC ?_ | refine zak rfl rfl (zc7 (by decide) (zc7 (by decide) zap)) noC ?_ | refine zdc (zm8 (s := 0 :: _) rfl rfl (y2b 0) rfl) ?_)
 exact uE
noncomputable def th65 : IC := iL (iL (iR (icOf 65)))
noncomputable def ic65 : IC := sR [oM 2 (.mov (cI 0))]
 (.seq (.cond (.c (.bool false)) th65 (.skip))
 (sR [oT 6 0,
  oM 7 (.call (.c (.fn 101 [] [])) [(.t 6)]),
  oT 2 7]
 (.ret)))
theorem fn65 : env0.fn 65 = some ⟨8, ic65, [.t 2]⟩ := by kernel_rfl
theorem len65 : PF Tryz.prog 65 [.int .u64 0] (.int .i64 0) := by
 have p := len101;refine za6 env0_ok fn65 [(0, .int .u64 0)] (y04 rfl) rfl fun w0 N0 => ?_;unfold ic65;refine zbf ?_;exact uE
noncomputable def rs64 : IC := iR (iR (iR (iR (iR (iR (iR (icOf 64)))))))
noncomputable def bd64 : IC := .block 1 (sR [oT 19 2,
  oT 20 1,
  oM 21 (.bin .sub (.t 19) (.t 20)),
  oT 10 21]
 (.seq (sR [oT 22 10,
  oM 23 (.bin .leq (.t 22) (cI 12))]
 (.cond (.t 23) (sR [oT 24 0,
  oT 25 1,
  oT 26 2,
  oM 27 (.call (.c (.fn 91 [] [])) [(.t 24), (.t 25), (.t 26)])]
 (.ret))
 (.skip))) rs64))
noncomputable def ic64 : IC := sR [oM 8 (.mov (.c (.bool true)))]
 (sR [oM 9 (.mov (.c (.bool true)))]
 (.block 0 (.loop bd64)))
theorem fn64 : env0.fn 64 = some ⟨134, ic64, []⟩ := by kernel_rfl
theorem pdq64 : PF Tryz.prog 64 [.vs [], .int .i64 0, .int .i64 0, .int .i64 0] (.tup []) := by
 have p := insert91;refine za6 env0_ok fn64 [(0, .vs []), (1, .int .i64 0), (2, .int .i64 0), (3, .int .i64 0)] (y04 rfl) rfl fun w0 N0 => ?_;unfold ic64;refine zbf ?_;refine zav (fun mm S => mm = 0 /\ S = st 134 [(0, .vs []), (1, .int .i64 0), (2, .int .i64 0)] [] 0 0) 0 skp ⟨rfl, rfl⟩ ?_;rintro mm S ⟨rfl, rfl⟩;unfold bd64;refine zbf ?_;exact uE
-- slices.Sort[[]int,int]
def ic40 : IC := sR [oT 3 0,
  oM 4 (.len false (.t 3)),
  oT 2 4]
 (.region [oT 5 0,
  oT 6 2,
  oT 7 2,
  oM 8 (.conv .u64 (.t 7)),
  oM 9 (.call (.c (.fn 65 [] [])) [(.t 8)]),
  oM 10 (.call (.c (.fn 64 [] [])) [(.t 5), (cI 0), (.t 6), (.t 9)])] none)
theorem fn40 : env0.fn 40 = some ⟨11, ic40, []⟩ := by kernel_rfl
set_option maxRecDepth 100000 in
theorem ints40 : PF Tryz.prog 40 [.vs []] (.tup []) := by
 have p := pdq64;have p2 := len65;refine za6 env0_ok fn40 [(0, .vs [])] (y04 rfl) rfl fun w0 N0 => ?_;unfold ic40;refine zbf ?_;exact zab ⟨.inl rfl, _, rfl, rfl⟩
set_option maxRecDepth 100000
theorem Gq.elems {sz b nx ck n : Nat} {es : List (List AV)} {w : AV} {l : List (Nat × AV)} {hp : List (Nat × Nat × AObj)} (h : Gq sz b es w hp nx) (hs : ∀ e ∈ es, e.length = sz) : (st n l hp nx ck []).elems sz w = some es := by
 rcases h with ⟨rfl, rfl⟩ | ⟨id, sp, rfl, hl, _, _⟩
 ·rfl
 ·exact zew (ys := []) (by rw [y0u]; exact hl) rfl hs
theorem ztb (q : List Int) : (q.map fun b => ([.int .i64 b] : List AV)).flatten.all AV.isCell = true := by
 rw [y0h];intro x hx;obtain ⟨e, he, hx⟩ := List.mem_flatten.1 hx;obtain ⟨_, _, rfl⟩ := y0p.1 he;obtain rfl := y0j.1 hx;rfl
def Wl (L : List Int) (b : Nat) (w : AV) (H : HS) : Prop :=
 (L = [] /\ w = .vs []) \/ ∃ id sp J, w = .ms id sp 1 0 L.length none /\ Am.look id H.heap = some (sp, .cells (L.map (AV.int .i64) ++ J)) /\ b <= id /\ id < H.next
theorem cps_nil : cps (srt []) = [] := y0l.1 (by have h1 := zv4 (srt []); have h2 := zl8 []; rw [h2] at h1; exact Nat.le_zero.1 h1)
def badL (c : Ctl) (s : Sta) (n : Nat) : List Int := cps (srt (itC c s n))
def b22_0 : IC := .seq (sR [oT 9 6,
  oM 10 (.bin .leq (.t 9) (cI 64))]
 (.cond (.t 10) (.skip)
 (.exit 0)))
 (.seq (.block 1 (sR [oT 14 0,
  oM 15 (.call (.c (.fn 29 [] [])) [(.t 14)]),
  oT 13 15,
  oM 16 (.extract (.t 13) 0),
  oM 17 (.extract (.t 13) 1),
  oT 7 16,
  oT 8 17]
 (sR [oT 18 5,
  oT 19 8,
  oM 20 (.append 1 8 [.int .i64 0] (.t 18) (.t 19)),
  oT 5 20]
 (sR [oT 21 7,
  oM 22 (.un .not (.t 21))]
 (.cond (.t 22) (sR [oT 23 5,
  oM 24 (.call (.c (.fn 40 [] [])) [(.t 23)])]
 (sR [oT 25 6,
  oT 26 5,
  oM 27 (.call (.c (.fn 41 [] [])) [(.t 26)]),
  oT 2 25,
  oT 3 27,
  oM 4 (.mov (cI 0))]
 (.ret)))
 (.skip))))))
 (.region [oT 11 6,
  oM 12 (.bin .add (.t 11) (cI 1)),
  oT 6 12] none))
-- (*pneumatic/settle.machine).settle
def ic22 : IC := sR [oM 2 (.mov (cI 0)),
  oM 3 (.mov (.c (.nils))),
  oM 4 (.mov (cI 0))]
 (sR [oM 5 (.mov (.c (.nils)))]
 (.seq (sR [oM 6 (.mov (cI 0))]
 (.block 0 (.loop b22_0)))
 (sR [oM 2 (.mov (cI 0)),
  oM 3 (.mov (.c (.nils))),
  oM 4 (.mov (cI 21))]
 (.ret))))
theorem fn22 : env0.fn 22 = some ⟨28, ic22, [.t 2, .t 3, .t 4]⟩ := by kernel_rfl
set_option maxHeartbeats 8000000 in
set_option maxRecDepth 100000 in
theorem settle22 {w0 : World} {N0 : Nat} {c : Ctl} {s : Sta} {q : Nms} (h : Ct c) (hs : Ss c s) (H : HS) (hM : Mc c q s H) (hiv : q.iv < H.next) (hit : q.it < H.next) :
  FT Tryz.prog w0 N0 22 [.mptr q.m q.sm 0] H (fun v H' => (∃ n w, n <= 64 /\ (∀ j, j < n -> itS c s (j + 1) ≠ itS c s j) /\ itS c s (n + 1) = itS c s n /\ v = .tup [.int .i64 (n : Nat), w, .int .i64 0] /\ Mc c q (itS c s n) H' /\ Wl (badL c s (n + 1)) H.next w H' /\ Kp (fun j => j = q.iv \/ j = q.it) H H') \/
   ((∀ j, j <= 64 -> itS c s (j + 1) ≠ itS c s j) /\ v = .tup [.int .i64 0, .nils, .int .i64 21] /\ Kp (fun j => j = q.iv \/ j = q.it) H H')) := by
 have s16 := h.s16;obtain ⟨hp0, nx0, ck0⟩ := H;have hiv : q.iv < nx0 := hiv;have hit : q.it < nx0 := hit;have hqm : q.m < nx0 := hM.lm;refine zbr env0_ok fn22 [(0, .mptr q.m q.sm 0)] (y04 rfl) rfl ?_;unfold ic22;refine zcb ?_;refine zav (fun mm S => ∃ (n : Nat) (hp : List (Nat × Nat × AObj)) (nx ck : Nat) (w : AV), mm = 65 - n /\ n <= 65 /\ (∀ j, j < n -> itS c s (j + 1) ≠ itS c s j) /\ Mc c q (itS c s n) ⟨hp, nx, ck⟩ /\ Gq 1 nx0 ((itC c s n).map fun z => [.int .i64 z]) w hp nx /\ Kp (fun j => j = q.iv \/ j = q.it) ⟨hp0, nx0, ck0⟩ ⟨hp, nx, ck⟩ /\ S = st 28 [(0, .mptr q.m q.sm 0), (5, w), (6, .int .i64 (n : Nat))] hp nx ck) 65
  skp ⟨0, _, _, _, _, rfl, y0q _, fun j hj => absurd hj (y1b _), hM, .inl ⟨rfl, rfl⟩, Kp.refl _ _, rfl⟩ ?_
 rintro mm S ⟨n, hp, nx, ck, w, rfl, hn, hne, hMn, hGn, hKn, rfl⟩;unfold b22_0;refine zdo ?_;have hnx : nx0 <= nx := hKn.next;refine za3 rfl rfl rfl (fun h3 => ?_) fun h3 => ?_
 ·have hn64 : n <= 64 := by
   have h4 : ((n : Nat) : Int) <= 64 := of_decide_eq_true h3;omega
  have w1 := za9 n (by omega);refine zcb ?_;refine zjn _ rfl rfl (zk8 (zww h (it_ss hs n) ⟨hp, nx, ck⟩ hMn (by show q.iv < nx; omega) (by show q.it < nx; omega))) (fun _ _ _ _ hm => absurd hm y07) ?_
  rintro v ⟨hp2, nx2, ck2⟩ ⟨w2, rfl, hM2, hk2, hG2⟩;have hn2 : nx <= nx2 := hk2.next;have hGo : Gq 1 nx0 ((itC c s n).map fun z => [.int .i64 z]) w hp2 nx2 := hGn.of hn2 fun i h1 h2 => hk2.look i (fun e => e.elim (by omega) (by omega)) h2;have hcl := zqj c s n;have hrl := zmq c (itS c s n);have hml : n * c.sg.length <= 64 * 16 := Nat.mul_le_mul hn64 s16;refine zbf ?_;refine zkx (sz := 1) (b := nx0) ((zj9 c (itS c s n)).map fun z => [.int .i64 z]) hGo (zhl _) rfl rfl (hG2.elems (zhl _)) (ztb _) (by decide) (show nx0 <= nx2 by omega) (by rw [y06, y06]; omega) ?_
  intro w3 hp3 nx3 ck3 hG3 hn3 hk3;have hn3 : nx2 <= nx3 := hn3;have hG3 : Gq 1 nx0 ((itC c s (n + 1)).map fun z => [.int .i64 z]) w3 hp3 nx3 := by
   rw [show itC c s (n + 1) = itC c s n ++ zj9 c (itS c s n) from rfl, y11]
   exact hG3
  have hM3 : Mc c q (itS c s (n + 1)) ⟨hp3, nx3, ck3⟩ := hM2.keepB (b := nx0) hqm hiv hit (by show nx0 <= nx3; omega) hk3
  have hK3 : Kp (fun j => j = q.iv \/ j = q.it) ⟨hp0, nx0, ck0⟩ ⟨hp3, nx3, ck3⟩ := ⟨by show nx0 <= nx3; omega, fun j hj hlt => (hk3 j hlt).trans ((hk2.look j hj (by show j < nx; have : j < nx0 := hlt; omega)).trans (hKn.look j hj hlt))⟩
  have hcl3 := zqj c s (n + 1);have hml3 : (n + 1) * c.sg.length <= 65 * 16 := Nat.mul_le_mul (by omega) s16;refine zbf ?_;have hsb : steB (itS c s n) (zbm c (itS c s n)) = true ↔ itS c s n = itS c s (n + 1) := zo9 _ _;cases hb : steB (itS c s n) (zbm c (itS c s n)) with
  | true =>
   have heq := hsb.1 hb;have hMe : Mc c q (itS c s n) ⟨hp3, nx3, ck3⟩ := by rw [heq]; exact hM3
   have hbl : badL c s (n + 1) = cps (srt (itC c s (n + 1))) := rfl;generalize itC c s (n + 1) = L at *;rcases hG3 with ⟨e, rfl⟩ | ⟨id, sp, rfl, hl, k1, k2, k3⟩
   ·have e : L = [] := List.map_eq_nil_iff.1 e;subst e;refine zdo ?_;refine zak rfl rfl ints40 noC ?_;refine zdo ?_;refine zak rfl rfl zv2 noC ?_;refine zbd ?_;exact zab ⟨.inr rfl, _, rfl, .inl ⟨n, _, hn64, hne, heq.symm, rfl, hMe, .inl ⟨hbl.trans cps_nil, rfl⟩, hK3⟩⟩
   ·have hL : L ≠ [] := fun e => k3 (by rw [e]; rfl);have hl : Am.look id hp3 = some (sp, .cells (L.map (AV.int .i64))) := by rw [hl, zbh]
    rw [y06];have hne2 : srt L ≠ [] := fun e => hL (by have := zl8 L; rw [e] at this; exact y0l.1 this.symm)
    refine zdo ?_;refine zjn _ rfl rfl (zc4 (FT_sort (cap := none) (zs := L) ent64 sorts64 hL (by omega) hl)) (fun _ _ _ _ hm => absurd hm y07) ?_;rintro v _ ⟨rfl, rfl⟩;refine zdo ?_;refine zjn _ rfl (by rw [<- zl8 L]; rfl) (zc4 (zsz (cap := none) (zs := srt L) (sp := sp) (id := id) (H := ⟨zau id (sp, .cells ((srt L).map (AV.int .i64))) hp3, nx3, ck3⟩) ent65 cpts65 hne2 (by rw [zl8]; omega) (by show Am.look id (zau id _ hp3) = _; rw [za0, if_pos rfl]))) (fun _ _ _ _ hm => absurd hm y07) ?_
    rintro v _ ⟨rfl, rfl⟩;refine zbd ?_;refine zab ⟨.inr rfl, _, rfl, .inl ⟨n, _, hn64, hne, heq.symm, rfl, ?_, .inr ⟨id, sp, (List.replicate ((srt L).length - (cps (srt L)).length) 0).map (AV.int .i64), by rw [hbl], ?_, k1, k2⟩, ?_⟩⟩
    ·exact hMe.keepB (b := nx0) hqm hiv hit (by show nx0 <= nx3; omega) fun j hj => by
      show Am.look j (zau id _ (zau id _ hp3)) = _;rw [za0, if_neg (by omega), za0, if_neg (by omega)]
    ·show Am.look id (zau id _ (zau id _ hp3)) = _;rw [hbl, za0, if_pos rfl, y11]
    ·refine ⟨hK3.next, fun j hj hlt => ?_⟩;have hlt2 : j < nx0 := hlt;show Am.look j (zau id _ (zau id _ hp3)) = _;rw [za0, if_neg (by omega), za0, if_neg (by omega)];exact hK3.look j hj hlt
  | false =>
   refine zbd ?_;rw [w1];exact zad (show 65 - (n + 1) < 65 - n by omega) skp ⟨n + 1, hp3, nx3, ck3, w3, rfl, by omega, fun j hj => by
    by_cases e : j = n
    ·subst e;intro e2;rw [hsb.2 e2.symm] at hb;cases hb
    ·exact hne j (by omega), hM3, hG3, hK3, rfl⟩
 ·have hn65 : n = 65 := by
   have h4 : ¬ ((n : Nat) : Int) <= 64 := of_decide_eq_false h3;omega
  refine zbb ?_;refine zbp ?_;refine zbb ?_;exact zab ⟨.inr rfl, _, rfl, .inr ⟨fun j hj => hne j (by omega), rfl, hKn⟩⟩
set_option maxRecDepth 100000
theorem Mc.small {c : Ctl} {q : Nms} {s : Sta} {H : HS} {b : Nat} (h : Mc c q s H) (h1 : b <= q.m) (h2 : s.vals ≠ [] -> b <= q.iv) (h3 : s.tms ≠ [] -> b <= q.it) : ∃ q' : Nms, q'.m = q.m /\ q'.sm = q.sm /\ Mc c q' s H /\ (b <= q'.iv /\ q'.iv < H.next) /\ b <= q'.it /\ q'.it < H.next := by
 refine ⟨⟨q.m, q.sm, if s.vals = [] then q.m else q.iv, q.sv, if s.tms = [] then q.m else q.it, q.tt⟩, rfl, rfl, ⟨?_, h.lm, fun e => ?_, fun e => ?_, fun e1 e2 => ?_⟩, ?_, ?_⟩
 ·refine h.hm.trans ?_;have e1 : wvA s.vals (if s.vals = [] then q.m else q.iv) q.sv = wvA s.vals q.iv q.sv := by
   by_cases e : s.vals = []
   ·rw [e];rfl
   ·rw [if_neg e]
  have e2 : wtA true s.tms (if s.tms = [] then q.m else q.it) q.tt = wtA true s.tms q.it q.tt := by
   by_cases e : s.tms = []
   ·rw [e];rfl
   ·rw [if_neg e]
  unfold mcC;dsimp only;rw [e1, e2]
 ·dsimp only;rw [if_neg e];exact h.hv e
 ·dsimp only;rw [if_neg e];exact h.ht e
 ·dsimp only;rw [if_neg e1, if_neg e2];exact h.ne e1 e2
 ·dsimp only;split
  ·exact ⟨h1, h.lm⟩
  ·rename_i e;exact ⟨h2 e, (h.hv e).2.1⟩
 ·dsimp only;split
  ·exact ⟨h1, h.lm⟩
  ·rename_i e;exact ⟨h3 e, (h.ht e).2.1⟩
theorem Wl.view {L : List Int} {b : Nat} {w : AV} {H : HS} (h : Wl L b w H) {S : AS} (hk : ∀ j, b <= j -> j < H.next -> Am.look j S.heap = Am.look j H.heap) (d : Nat) : S.view (d + 1) w = vsI L := by
 rcases h with ⟨rfl, rfl⟩ | ⟨id, sp, J, rfl, hl, h1, h2⟩
 ·rfl
 ·exact zpt L rfl ((hk id h1 h2).trans hl)
theorem Gq.viewI {L : List Int} {b nx : Nat} {w : AV} {hp : List (Nat × Nat × AObj)} (h : Gq 1 b (L.map fun z => [.int .i64 z]) w hp nx) {S : AS} (hk : ∀ j, b <= j -> j < nx -> Am.look j S.heap = Am.look j hp) (d : Nat) : S.view (d + 1) w = vsI L := by
 rcases h with ⟨e, rfl⟩ | ⟨id, sp, rfl, hl, h1, h2, _⟩
 ·rw [List.map_eq_nil_iff.1 e];rfl
 ·rw [y06];exact zfg L rfl ((hk id h1 h2).trans (by rw [hl, zbh]))
theorem res3 {S : AS} {a b d k : Nat} {p v w : AV} {cs : List AV} (h1 : S.get a = some p) (d1 : S.deref p = some cs) (hk : k <= cs.length) (h2 : S.get b = some v) (h3 : S.get d = some w) : S.res [.cell a (some k), .t b, .t d] = some (.tup [.agg (cs.take k), v, w]) := by
 simp only [AS.res, AS.resL, zql, h1, d1, if_pos hk, h2, h3];rfl
def z5 : AV := .agg [.vs [], .vs [], .vs [], .vs [], .vs []]
theorem Mc.view {c : Ctl} {q : Nms} {s : Sta} {H : HS} (h : Mc c q s H) {b : Nat} (hv : b <= q.iv) (ht : b <= q.it) {S : AS} (hk : ∀ j, b <= j -> j < H.next -> Am.look j S.heap = Am.look j H.heap) (d : Nat) : S.view (d + 2) (.agg [vsI s.en, vsB s.va, vsB s.inp, wvA s.vals q.iv q.sv, wtA true s.tms q.it q.tt]) = .agg (cS s) :=
 zi7 (fun d => zoh (fun e => (hk _ hv (h.hv e).2.1).trans (h.hv e).1) d) (fun d => zog (fun e => (hk _ ht (h.ht e).2.1).trans (h.ht e).1) d)
-- pneumatic/settle.Settle
def ic8 : IC := sR [oM 2 (.box (.t 0)),
  oM 3 (.box (.t 1)),
  oM 4 (.alloc [.nils, .nils, .nils, .nils, .nils]),
  oM 5 (.mov (.c (.nils))),
  oM 6 (.mov (cI 0))]
 (sR [oL 12 5 2,
  oL 13 5 3,
  oM 14 (.call (.c (.fn 21 [] [])) [(.t 12), (.t 13)]),
  oT 11 14,
  oM 15 (.extract (.t 11) 0),
  oM 16 (.extract (.t 11) 1),
  oT 7 15,
  oT 8 16]
 (.seq (sR [oT 17 8,
  oM 18 (.bin .neq (.t 17) (cI 0))]
 (.cond (.t 18) (sR [oM 19 (.build [.nils, .nils, .nils, .nils, .nils] []),
  oT 20 8,
  ⟨none, .store 5 (.t 4) (.t 19), none⟩,
  oM 5 (.mov (.c (.nils))),
  oT 6 20]
 (.ret))
 (.skip)))
 (sR [oT 22 7,
  oM 23 (.call (.c (.fn 22 [] [])) [(.t 22)]),
  oT 21 23,
  oM 24 (.extract (.t 21) 0),
  oM 25 (.extract (.t 21) 1),
  oM 26 (.extract (.t 21) 2),
  oT 9 24,
  oT 10 25,
  oT 8 26]
 (.seq (sR [oT 27 8,
  oM 28 (.bin .neq (.t 27) (cI 0))]
 (.cond (.t 28) (sR [oM 29 (.build [.nils, .nils, .nils, .nils, .nils] []),
  oT 30 8,
  ⟨none, .store 5 (.t 4) (.t 29), none⟩,
  oM 5 (.mov (.c (.nils))),
  oT 6 30]
 (.ret))
 (.skip)))
 (sR [oT 31 7,
  oM 32 (.nilchk (.t 31)),
  oF 33 5 32,
  oL 34 5 33,
  oT 35 10,
  ⟨none, .store 5 (.t 4) (.t 34), none⟩,
  oT 5 35,
  oM 6 (.mov (cI 0))]
 (.ret))))))
theorem fn8 : env0.fn 8 = some ⟨36, ic8, [.cell 4 (some 5), .t 5, .t 6]⟩ := by kernel_rfl
set_option maxHeartbeats 8000000 in
set_option maxRecDepth 100000 in
theorem settle8 {c : Ctl} {s : Sta} {v : AV} (h : Ct c) (hs : Ss c s) (hok : ∀ n, n <= 64 -> (∀ j, j < n -> itS c s (j + 1) ≠ itS c s j) -> itS c s (n + 1) = itS c s n -> v = .tup [.agg (cS (itS c s n)), vsI (badL c s (n + 1)), .int .i64 0]) (hbad : (∀ j, j <= 64 -> itS c s (j + 1) ≠ itS c s j) -> v = .tup [z5, .vs [], .int .i64 21]) : PF Tryz.prog 8 [.agg (cC c), .agg (cS s)] v := by
 refine za6 env0_ok fn8 [(0, .agg (cC c)), (1, .agg (cS s))] (y04 rfl) rfl fun w0 N0 => ?_;unfold ic8;refine zbb ?_;refine zjn _ rfl rfl (zc4 (of21 h hs ⟨_, _, _⟩)) (fun _ _ _ _ hm => absurd hm y07) ?_;rintro _ ⟨hp, nx, ck⟩ ⟨q0, rfl, hM0, hk0, hm0, hv0, ht0⟩;obtain ⟨q, e1, e2, hM, ⟨b1, b2⟩, b3, b4⟩ := hM0.small hm0 hv0 ht0;rw [<- e1, <- e2];rw [<- e1] at hm0;have hnx : 3 <= nx := hk0.next;have hl2 : Am.look 2 hp = some (2, .cells zda) := (hk0.look 2 (fun h => h) (y09 2)).trans rfl;have hl3 : 3 <= q.m := hm0;have b1 : 3 <= q.iv := b1;have b3 : 3 <= q.it := b3;refine zbf ?_;refine zjn _ rfl rfl (zc4 (settle22 h hs ⟨hp, nx, ck⟩ hM b2 b4)) (fun _ _ _ _ hm => absurd hm y07) ?_;rintro _ ⟨hp2, nx2, ck2⟩ (⟨n, w, hn, hne, heq, rfl, hM2, hW, hk2⟩ | ⟨hne, rfl, hk2⟩)
 ·rw [hok n hn hne heq];have hl2 : Am.look 2 hp2 = some (2, .cells zda) := (hk2.look 2 (fun e => e.elim (by omega) (by omega)) (by show 2 < nx; omega)).trans hl2
  have hnx2 : nx <= nx2 := hk2.next;refine zbf ?_;refine zb9 rfl hM2.hm hM2.lm rfl rfl ?_;repeat (first | refine zan rfl ?_)
  refine zaj rfl rfl rfl rfl hl2 rfl (by show ([vsI (itS c s n).en, vsB (itS c s n).va, vsB (itS c s n).inp, wvA (itS c s n).vals q.iv q.sv, wtA true (itS c s n).tms q.it q.tt] : List AV).all AV.isCell = true; simp only [y1h, y2h, zfi, zgu]; rfl) ?_
  refine zdo ?_;have hk4 : ∀ j, 3 <= j -> j < nx2 -> Am.look j (zau (0 + 1 + 1) (0 + 1 + 1, AObj.cells (setAt 0 zda (List.take 5 (List.drop (0 + 5) (mcC c (itS c s n) q))))) hp2) = Am.look j hp2 := fun j h1 _ => by rw [za0, if_neg (by omega)]
  refine zab ⟨.inr rfl, _, res3 (zc3 4) (zc5 (sp := 2) (cs := [vsI (itS c s n).en, vsB (itS c s n).va, vsB (itS c s n).inp, wvA (itS c s n).vals q.iv q.sv, wtA true (itS c s n).tms q.it q.tt]) (by show Am.look 2 (zau 2 _ hp2) = _; rw [za0, if_pos rfl]; rfl) (by show 2 < nx2; omega)) (y08 _) (zc3 5) (zc3 6), ?_⟩
  rw [show VD = (VD - 3) + 3 from rfl]
  show AV.tup [AS.view _ (VD - 3 + 2) (.agg [vsI (itS c s n).en, vsB (itS c s n).va, vsB (itS c s n).inp, wvA (itS c s n).vals q.iv q.sv, wtA true (itS c s n).tms q.it q.tt]), AS.view _ (VD - 3 + 1 + 1) w, .int .i64 0] = _;rw [hM2.view (b := 3) b1 b3 (fun j h1 h2 => hk4 j h1 h2), hW.view (fun j h1 h2 => hk4 j (by have : nx <= j := h1; omega) h2)]
 ·rw [hbad hne];have hl2 : Am.look 2 hp2 = some (2, .cells zda) := (hk2.look 2 (fun e => e.elim (by omega) (by omega)) (by show 2 < nx; omega)).trans hl2
  refine zbf ?_;refine zaj rfl rfl rfl rfl hl2 rfl rfl ?_;refine zbt ?_;refine zab ⟨.inr rfl, _, res3 (zc3 4) (zc5 (sp := 2) (cs := zda) (by show Am.look 2 (zau 2 _ hp2) = _; rw [za0, if_pos rfl]; rfl) (by have : nx <= nx2 := hk2.next; show 2 < nx2; omega)) (y08 _) (zc3 5) (zc3 6), rfl⟩
-- pneumatic/settle.Round
def ic14 : IC := sR [oM 2 (.box (.t 0)),
  oM 3 (.box (.t 1)),
  oM 4 (.alloc [.nils, .nils, .nils, .nils, .nils]),
  oM 5 (.mov (.c (.nils))),
  oM 6 (.mov (cI 0))]
 (sR [oL 12 5 2,
  oL 13 5 3,
  oM 14 (.call (.c (.fn 21 [] [])) [(.t 12), (.t 13)]),
  oT 11 14,
  oM 15 (.extract (.t 11) 0),
  oM 16 (.extract (.t 11) 1),
  oT 7 15,
  oT 8 16]
 (.seq (sR [oT 17 8,
  oM 18 (.bin .neq (.t 17) (cI 0))]
 (.cond (.t 18) (sR [oM 19 (.build [.nils, .nils, .nils, .nils, .nils] []),
  oT 20 8,
  ⟨none, .store 5 (.t 4) (.t 19), none⟩,
  oM 5 (.mov (.c (.nils))),
  oT 6 20]
 (.ret))
 (.skip)))
 (sR [oT 22 7,
  oM 23 (.call (.c (.fn 29 [] [])) [(.t 22)]),
  oT 21 23,
  oM 24 (.extract (.t 21) 0),
  oM 25 (.extract (.t 21) 1),
  oT 9 24,
  oT 10 25]
 (sR [oT 26 7,
  oM 27 (.nilchk (.t 26)),
  oF 28 5 27,
  oL 29 5 28,
  oT 30 10,
  ⟨none, .store 5 (.t 4) (.t 29), none⟩,
  oT 5 30,
  oM 6 (.mov (cI 0))]
 (.ret)))))
theorem fn14 : env0.fn 14 = some ⟨31, ic14, [.cell 4 (some 5), .t 5, .t 6]⟩ := by kernel_rfl
set_option maxHeartbeats 8000000 in
set_option maxRecDepth 100000 in
theorem round14 {c : Ctl} {s : Sta} (h : Ct c) (hs : Ss c s) : PF Tryz.prog 14 [.agg (cC c), .agg (cS s)] (.tup [.agg (cS (zbm c s)), vsI (zj9 c s), .int .i64 0]) := by
 refine za6 env0_ok fn14 [(0, .agg (cC c)), (1, .agg (cS s))] (y04 rfl) rfl fun w0 N0 => ?_;unfold ic14;refine zbb ?_;refine zjn _ rfl rfl (zc4 (of21 h hs ⟨_, _, _⟩)) (fun _ _ _ _ hm => absurd hm y07) ?_;rintro _ ⟨hp, nx, ck⟩ ⟨q0, rfl, hM0, hk0, hm0, hv0, ht0⟩;obtain ⟨q, e1, e2, hM, ⟨b1, b2⟩, b3, b4⟩ := hM0.small hm0 hv0 ht0;rw [<- e1, <- e2];rw [<- e1] at hm0;have hnx : 3 <= nx := hk0.next;have hl2 : Am.look 2 hp = some (2, .cells zda) := (hk0.look 2 (fun h => h) (y09 2)).trans rfl;have hl3 : 3 <= q.m := hm0;have b1 : 3 <= q.iv := b1;have b3 : 3 <= q.it := b3;refine zbf ?_;refine zjn _ rfl rfl (zc4 (zww h hs ⟨hp, nx, ck⟩ hM b2 b4)) (fun _ _ _ _ hm => absurd hm y07) ?_;rintro _ ⟨hp2, nx2, ck2⟩ ⟨w, rfl, hM2, hk2, hW⟩;have hl2 : Am.look 2 hp2 = some (2, .cells zda) := (hk2.look 2 (fun e => e.elim (by omega) (by omega)) (by show 2 < nx; omega)).trans hl2
 have hnx2 : nx <= nx2 := hk2.next;refine zbf ?_;refine zb9 rfl hM2.hm hM2.lm rfl rfl ?_;repeat (first | refine zan rfl ?_)
 refine zaj rfl rfl rfl rfl hl2 rfl (by show ([vsI (zbm c s).en, vsB (zbm c s).va, vsB (zbm c s).inp, wvA (zbm c s).vals q.iv q.sv, wtA true (zbm c s).tms q.it q.tt] : List AV).all AV.isCell = true; simp only [y1h, y2h, zfi, zgu]; rfl) ?_
 refine zdo ?_;have hk4 : ∀ j, 3 <= j -> j < nx2 -> Am.look j (zau (0 + 1 + 1) (0 + 1 + 1, AObj.cells (setAt 0 zda (List.take 5 (List.drop (0 + 5) (mcC c (zbm c s) q))))) hp2) = Am.look j hp2 := fun j h1 _ => by rw [za0, if_neg (by omega)]
 refine zab ⟨.inr rfl, _, res3 (zc3 4) (zc5 (sp := 2) (cs := [vsI (zbm c s).en, vsB (zbm c s).va, vsB (zbm c s).inp, wvA (zbm c s).vals q.iv q.sv, wtA true (zbm c s).tms q.it q.tt]) (by show Am.look 2 (zau 2 _ hp2) = _; rw [za0, if_pos rfl]; rfl) (by show 2 < nx2; omega)) (y08 _) (zc3 5) (zc3 6), ?_⟩
 rw [show VD = (VD - 3) + 3 from rfl]
 show AV.tup [AS.view _ (VD - 3 + 2) (.agg [vsI (zbm c s).en, vsB (zbm c s).va, vsB (zbm c s).inp, wvA (zbm c s).vals q.iv q.sv, wtA true (zbm c s).tms q.it q.tt]), AS.view _ (VD - 3 + 1 + 1) w, .int .i64 0] = _;rw [hM2.view (b := 3) b1 b3 (fun j h1 h2 => hk4 j h1 h2), hW.viewI (fun j h1 h2 => hk4 j (by have : nx <= j := h1; omega) h2)]
end Go.Proofs.YtdolbghhcijonaaGreat
