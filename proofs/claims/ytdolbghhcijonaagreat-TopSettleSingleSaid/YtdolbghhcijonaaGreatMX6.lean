/-
  THE CHECKER: names and signals.; control.Check AND control.Right OF RIGHT CONTROLS.; control.Right OF RIGHT STATES.; LISTS THAT ARE COPIED; lists that grow; the values of all lines.; THE VALUES OF ALL LINES, as a new list.; GATES THAT ARE COMPUTED: the state that is copied for it.; GATES THAT ARE COMPUTED.
-/
import Derived.Test.YtdolbghhcijonaaGreatMX5
namespace Go.Proofs.YtdolbghhcijonaaGreat
open Go Go.Am
set_option maxRecDepth 100000
theorem view_p {n nx ck d : Nat} {l : List (Nat × AV)} {hp : List (Nat × Nat × AObj)} {id sp : Nat} {cs : List AV} (hl : Am.look id hp = some (sp, .cells cs)) (hid : id < nx) : (st n l hp nx ck).view (d + 1) (.mptr id sp 0) = .vptr (cs.map ((st n l hp nx ck).view d)) := by
 rw [AS.view];have : (st n l hp nx ck).deref (.mptr id sp 0) = some cs := by
  rw [znf];simp only [zj5, hl];rw [if_pos ⟨trivial, hid⟩];rfl
 rw [this]
theorem view_l {n nx ck : Nat} {l : List (Nat × AV)} {hp : List (Nat × Nat × AObj)} (d : Nat) (x : AV) : (st n l hp nx ck).view d x = (st n [] hp nx ck).view d x := by
 have : ∀ (d : Nat) (x : AV), (st n l hp nx ck).view d x = (st n [] hp nx ck).view d x := by
  intro d
  induction d with
  | zero => intro x; rfl
  | succ d ih =>
   intro x;have ih' : (st n l hp nx ck).view d = (st n [] hp nx ck).view d := funext ih;cases x <;> simp only [AS.view, ih'] <;> rfl
 exact this d x
structure Ck (c : Ctl) (x sx m sm : Nat) (F : List AV) (ks : List (List UInt8)) (H : HS) : Prop where
 hx : Am.look x H.heap = some (sx, .cells (cC c ++ (.mapv m sm :: F)))
 hm : Am.look m H.heap = some (sm, .map (zlk ks 0))
 lx : x < H.next
 lm : m < H.next
 ne : x ≠ m
theorem Ck.put {c : Ctl} {x sx m sm : Nat} {F : List AV} {ks ks' : List (List UInt8)} {H : HS} (h : Ck c x sx m sm F ks H) : Ck c x sx m sm F ks' ⟨zau m (sm, .map (zlk ks' 0)) H.heap, H.next, H.clk⟩ :=
 ⟨by rw [za0, if_neg (fun e => h.ne e.symm)]; exact h.hx, by rw [za0, if_pos rfl], h.lx, h.lm, h.ne⟩
theorem Ck.new {c : Ctl} {x sx m sm : Nat} {F : List AV} {ks : List (List UInt8)} {H : HS} (h : Ck c x sx m sm F ks H) (o : Nat × AObj) : Ck c x sx m sm F ks ⟨(H.next, o) :: H.heap, H.next + 1, H.clk + 1⟩ :=
 ⟨(za5 h.lx).trans h.hx, (za5 h.lm).trans h.hm, y1c h.lx, y1c h.lm, h.ne⟩
-- (*pneumatic/control.checker).name
def ic108 : IC := sR [oM 4 (.mov (cI 0))]
 (.seq (sR [oT 7 1,
  oM 8 (.bin .eql (.t 7) (.c (.str []))),
  oT 9 8,
  ⟨(some 10), .mov (.t 1), some (9, false)⟩,
  ⟨(some 11), .idxstr (.t 10) (cI 0), some (9, false)⟩,
  ⟨(some 12), .bin .lss (.t 11) (.c (.int .u8 97)), some (9, false)⟩,
  oM 13 (.pick (.t 9) (.c (.bool true)) (.t 12)),
  oT 14 13,
  ⟨(some 15), .mov (.t 1), some (14, false)⟩,
  ⟨(some 16), .idxstr (.t 15) (cI 0), some (14, false)⟩,
  ⟨(some 17), .bin .gtr (.t 16) (.c (.int .u8 122)), some (14, false)⟩,
  oM 18 (.pick (.t 14) (.c (.bool true)) (.t 17)),
  oT 19 18,
  ⟨(some 20), .mov (.t 1), some (19, false)⟩,
  ⟨(some 21), .call (.c (.fn 129 [] [])) [(.t 20), (.c (.fn 130 [] []))], some (19, false)⟩,
  oM 22 (.pick (.t 19) (.c (.bool true)) (.t 21))]
 (.cond (.t 22) (sR [oM 4 (.mov (cI 3))]
 (.ret))
 (.skip)))
 (.seq (sR [oT 23 1,
  oM 24 (.len true (.t 23)),
  oM 25 (.bin .gtr (.t 24) (cI 24))]
 (.cond (.t 25) (sR [oM 4 (.mov (cI 17))]
 (.ret))
 (.skip)))
 (.seq (sR [oT 27 0,
  oM 28 (.nilchk (.t 27)),
  oF 29 5 28,
  oN 30 29,
  oT 31 1,
  oM 32 (.mapget .str (.int .i64 0) true (.t 30) (.t 31)),
  oT 26 32,
  oM 33 (.extract (.t 26) 0),
  oM 34 (.extract (.t 26) 1),
  oT 5 33,
  oT 6 34]
 (sR [oT 35 6]
 (.cond (.t 35) (sR [oM 4 (.mov (cI 7))]
 (.ret))
 (.skip))))
 (.seq (.region [oT 36 0,
  oM 37 (.nilchk (.t 36)),
  oF 38 5 37,
  oN 39 38,
  oT 40 1,
  oT 41 0,
  oM 42 (.nilchk (.t 41)),
  oF 43 5 42,
  oN 44 43,
  oM 45 (.mapget .int (.top) false (.t 44) (cI 0)),
  ⟨none, .mapset .str (.t 39) (.t 40) (.t 45), none⟩] (some [[], [0], [1], [2], [], [], [5], [6], [7], [8], [3, 4, 9, 9, 0, 1, 2, 3, 4, 5, 6, 7, 8, 9]]))
 (sR [oM 4 (.mov (cI 0))]
 (.ret))))))
theorem fn108 : env0.fn 108 = some ⟨46, ic108, [.t 4]⟩ := by kernel_rfl
set_option maxHeartbeats 2000000 in
set_option maxRecDepth 100000 in
theorem zwd {w0 : World} {N0 : Nat} {c : Ctl} {x sx m sm : Nat} {F : List AV} {ks : List (List UInt8)} {s : List UInt8} (hw : wdB s = true) (hl : s.length <= 24) (hn : s ∉ ks) (H : HS) (hC : Ck c x sx m sm F ks H) :
  FT Tryz.prog w0 N0 108 [.mptr x sx 0, .str s] H (fun v H' => v = .int .i64 0 /\ H' = ⟨zau m (sm, .map (zlk (ks ++ [s]) 0)) H.heap, H.next, H.clk⟩) := by
 obtain ⟨b, r, rfl⟩ : ∃ b r, s = b :: r := by
  cases s with
  | nil => cases hw
  | cons b r => exact ⟨b, r, rfl⟩
 unfold wdB at hw;rw [y0g] at hw;obtain ⟨hall, hsm⟩ := hw;have hsm : smB b.toNat = true := hsm;unfold smB at hsm;simp only [y0g, decide_eq_true_eq] at hsm;rw [y0h] at hall;have p129 := zq7 (b :: r) hall;have hne : ¬ (b :: r) = [] := by simp
 have hge : (b :: r)[((0 : Nat) : Int).toNat]? = some b := rfl;obtain ⟨hx, hm, lx, lm, _⟩ := hC;have hgn := zvv _ _ 0 hn;have hsn := zqx _ (.int .i64 ((ks.length : Nat) : Int)) _ 0 hn;have hml := zs2 ks 0;rw [show zlk ks 0 ++ [(AV.str (b :: r), AV.int .i64 ((ks.length : Nat) : Int))] = zlk (ks ++ [b :: r]) 0 by rw [zks, y1g]] at hsn
 refine zbr env0_ok fn108 [(0, .mptr x sx 0), (1, .str (b :: r))] (y04 rfl) rfl ?_;unfold ic108;repeat (first | refine zb3 ?_ | refine za8 rfl ?_ | refine zb1 ?_ | refine zaw ?_ | refine zbg ?_ | refine zfw rfl ?_ | refine zic rfl ?_ | refine zan rfl ?_ | refine zah rfl ?_ | refine zbl rfl rfl ?_ | refine zdb rfl rfl ?_ | refine zfz rfl rfl rfl ?_ | refine zj7 rfl ?_ | refine o_ixs rfl rfl (y0z _) (by assumption) ?_ | refine zak rfl rfl (by assumption) noC ?_ | refine za3 rfl rfl rfl (fun h => absurd (of_decide_eq_true h) (by omega)) fun _ => ?_)
 refine zaf rfl hx lx rfl ?_;repeat (first | refine zan rfl ?_)
 refine o_mapget rfl rfl hm hgn ?_;repeat (first | refine zb3 ?_ | refine za8 rfl ?_ | refine zb1 ?_ | refine zaw ?_ | refine zbg ?_ | refine zfw rfl ?_ | refine zan rfl ?_ | refine zah rfl ?_ | refine zem rfl rfl ?_ | refine zi9 env0_ok rfl rfl rfl ?_ | refine zj7 rfl ?_)
 refine zaf rfl hx lx rfl ?_;refine zji ?_;refine zaf rfl hx lx rfl ?_;refine o_maplen rfl rfl hm ?_;rw [hml];refine zse rfl rfl rfl hm hsn ?_;refine zli ?_;exact zab ⟨.inr rfl, _, rfl, rfl, rfl⟩
def F3 (x sx : Nat) : List AV := [.fn 104 [.mptr x sx 0] [], .fn 105 [.mptr x sx 0] [], .fn 106 [.mptr x sx 0] []]
theorem zs7 {c : Ctl} {k : Nat} (h : nmE c k = 0) : wdB (nmd c k) = true /\ (nmd c k).length <= 24 /\ nmd c k ∉ (List.range k).map (nmd c) := by
 unfold nmE at h;split at h
 ·contradiction
 rename_i h1;split at h
 ·contradiction
 rename_i h2;split at h
 ·contradiction
 rename_i h3;refine ⟨by simpa using h1, by omega, fun hm => h3 ?_⟩;obtain ⟨i, hi, e⟩ := y0p.1 hm;unfold twB;rw [y2e];exact ⟨i, hi, by rw [e]; exact beq_self_eq_true _⟩
-- (*pneumatic/control.checker).signal
def ic109 : IC := sR [oM 4 (.mov (cI 0))]
 (sR [oT 8 0,
  oM 9 (.nilchk (.t 8)),
  oF 10 0 9,
  oF 11 2 10,
  oN 12 11,
  oT 13 1,
  oM 14 (.idxs 10 (.t 12) (.t 13)),
  oL 15 10 14,
  oM 5 (.alloc [.str [], .int .i64 0, .int .i64 0, .int .i64 0, .nils, .int .i64 0, .int .i64 0, .nils, .int .i64 0, .bool false]),
  ⟨none, .store 10 (.t 5) (.t 15), none⟩]
 (.seq (sR [oT 16 0,
  oF 17 0 5,
  oN 18 17,
  oM 19 (.call (.c (.fn 108 [] [])) [(.t 16), (.t 18)]),
  oT 6 19]
 (sR [oT 20 6,
  oM 21 (.bin .neq (.t 20) (cI 0))]
 (.cond (.t 21) (sR [oT 22 6,
  oT 4 22]
 (.ret))
 (.skip))))
 (.seq (sR [oF 23 1 5,
  oN 24 23,
  oM 25 (.bin .lss (.t 24) (cI 0)),
  oT 26 25,
  ⟨(some 27), .faddr 1 (.t 5), some (26, false)⟩,
  ⟨(some 28), .load none (.t 27), some (26, false)⟩,
  ⟨(some 29), .bin .geq (.t 28) (cI 3), some (26, false)⟩,
  oM 30 (.pick (.t 26) (.c (.bool true)) (.t 29))]
 (.cond (.t 30) (sR [oM 4 (.mov (cI 1))]
 (.ret))
 (.skip)))
 (.seq (.seq (.region [oF 31 2 5,
  oL 32 3 31,
  oT 33 0,
  oM 34 (.nilchk (.t 33)),
  oF 35 0 34,
  oL 36 5 35,
  oM 37 (.call (.c (.fn 46 [] [])) [(.t 36)]),
  oM 38 (.call (.c (.fn 85 [] [])) [(.t 32), (.t 37)]),
  oT 7 38] (some [[], [0], [], [2], [3], [4], [5], [1, 6, 6], [7, 7, 0, 1, 2, 3, 4, 5, 6, 7]]))
 (sR [oT 39 7,
  oM 40 (.bin .neq (.t 39) (cI 0))]
 (.cond (.t 40) (sR [oT 41 7,
  oT 4 41]
 (.ret))
 (.skip))))
 (.seq (.region [oT 42 0,
  oF 43 1 5,
  oN 44 43,
  oM 45 (.nilchk (.t 42)),
  oF 46 6 45,
  oM 47 (.idxarr 3 1 (.t 46) (.t 44)),
  oN 48 47,
  oT 49 1,
  oM 50 (.call (.t 48) [(.t 49)]),
  oT 4 50] (some [[], [], [1], [0], [3], [4, 2], [5], [], [6, 7], [8, 8, 0, 1, 2, 3, 4, 5, 6, 7, 8]]))
 (.ret))))))
theorem fn109 : env0.fn 109 = some ⟨51, ic109, [.t 4]⟩ := by kernel_rfl
set_option maxHeartbeats 8000000 in
set_option maxRecDepth 100000 in
theorem zx3 {w0 : World} {N0 : Nat} {c : Ctl} {x sx m sm : Nat} (h : Ct c) {i : Nat} (hi : i < c.sg.length) (H : HS) (hC : Ck c x sx m sm (F3 x sx) ((List.range (fsC c + i)).map (nmd c)) H) :
  FT Tryz.prog w0 N0 109 [.mptr x sx 0, .int .i64 (i : Nat)] H (fun v H' => v = .int .i64 0 /\ Ck c x sx m sm (F3 x sx) ((List.range (fsC c + i + 1)).map (nmd c)) H' /\ Keep (fun j => j = m) H H') := by
 have hge := zdn hi;have hnm := zs7 (h.nme (fsC c + i) (by unfold fsC; omega) (by unfold lnC; omega));rw [nmd_s (by omega), show fsC c + i - fsC c = i by omega] at hnm
 have hks : (List.range (fsC c + i + 1)).map (nmd c) = (List.range (fsC c + i)).map (nmd c) ++ [(sgA c.sg i).nm] := by
  rw [List.range_succ, y11, y1a, List.map_nil, nmd_s (by omega), show fsC c + i - fsC c = i by omega]
 rw [hks];generalize (List.range (fsC c + i)).map (nmd c) = ks at *;have p46 := zq8 h.toSm;have p85 := zq3 (sgA c.sg i).on (h.x1 _ (zi0 hi)).1 (lnC c);rw [zn8, h.on i hi, zif] at p85;have hkd := h.kd i hi;have g0 := fun e K => gate104 h hi e K;have g1 := fun e K => zwc h hi e K;have g2 := fun e K => timer106 h hi e K;have hv : ∀ (hp : List (Nat × Nat × AObj)) (nx ck : Nat), Am.look x hp = some (sx, .cells (cC c ++ (.mapv m sm :: F3 x sx))) -> x < nx -> ∃ K, ∀ l, (st 51 l hp nx ck).view VD (.mptr x sx 0) = .vptr (cC c ++ K) := fun hp nx ck hl hid => ⟨_, fun l => by
  rw [view_l, show VD = (VD - 1) + 1 from rfl, view_p hl hid, y11]
  rfl⟩
 refine zbr env0_ok fn109 [(0, .mptr x sx 0), (1, .int .i64 (i : Nat))] (y04 rfl) rfl ?_;unfold ic109;generalize sgA c.sg i = s at *;refine zji ?_;refine zaf rfl hC.hx hC.lx rfl ?_;refine zil ?_;refine zaj rfl rfl rfl rfl za4 rfl rfl ?_;rw [zbz];have hC1 := hC.new (H.clk, .cells (setAt 0 [.str [], .int .i64 0, .int .i64 0, .int .i64 0, .nils, .int .i64 0, .int .i64 0, .nils, .int .i64 0, .bool false] (List.take 10 (c10 s))));refine zhj ?_;refine zaf rfl za4 (y09 _) rfl ?_;refine zjn _ rfl rfl (zc4 (zwd hnm.1 hnm.2.1 hnm.2.2 ⟨_, _, _⟩ hC1)) (fun v H hF => fun m hm => absurd hm y07) fun v H2 hF => ?_;obtain ⟨rfl, rfl⟩ := hF;have hC2 := hC1.put (ks' := ks ++ [s.nm]);have hK2 : Keep (fun j => j = m) H ⟨zau m (sm, .map (zlk (ks ++ [s.nm]) 0)) ((H.next, H.clk, .cells (setAt 0 [.str [], .int .i64 0, .int .i64 0, .int .i64 0, .nils, .int .i64 0, .int .i64 0, .nils, .int .i64 0, .bool false] (List.take 10 (c10 s)))) :: H.heap), H.next + 1, H.clk + 1⟩ :=
  ⟨y0x _, y0x _, fun j hj hlt => by rw [za0, if_neg (fun e => hj e.symm), za5 hlt]⟩
 have hlo : Am.look H.next (zau m (sm, AObj.map (zlk (ks ++ [s.nm]) 0)) ((H.next, H.clk, AObj.cells (setAt 0 [.str [], .int .i64 0, .int .i64 0, .int .i64 0, .nils, .int .i64 0, .int .i64 0, .nils, .int .i64 0, .bool false] (List.take 10 (c10 s)))) :: H.heap)) = some (H.clk, .cells (c10 s)) := by
  rw [za0, if_neg (by have := hC.lm; omega)]
  exact za4
 generalize zau m (sm, AObj.map (zlk (ks ++ [s.nm]) 0)) ((H.next, H.clk, AObj.cells (setAt 0 [.str [], .int .i64 0, .int .i64 0, .int .i64 0, .nils, .int .i64 0, .int .i64 0, .nils, .int .i64 0, .bool false] (List.take 10 (c10 s)))) :: H.heap) = hp2 at *;have hxl := hC2.hx;have hxn := hC2.lx;refine zfj ?_;refine zaf rfl hlo (y09 _) rfl ?_;refine za3 rfl rfl rfl (fun h1 => absurd (of_decide_eq_true h1) (by omega)) fun _ => ?_;refine zji ?_;refine zaf rfl hlo (y09 _) rfl ?_;refine zic rfl (za3 rfl rfl rfl (fun h1 => absurd (of_decide_eq_true h1) (by omega)) fun _ => ?_);refine zji ?_;refine zc2 env0_ok _ (hL2 p46 p85) (fun g => Nat.beq g 46 || Nat.beq g 85) rfl rfl rfl ?_;repeat (first | refine zah rfl ?_)
 refine zb9 rfl hlo (y09 _) rfl rfl ?_;refine zji ?_;refine zb9 rfl hxl hxn rfl rfl ?_;refine zgw ?_;have hxl : Am.look x hp2 = some (sx, .cells (cC c ++ (.mapv m sm :: F3 x sx))) := hxl;obtain ⟨K, hvK⟩ := hv hp2 (H.next + 1) (H.clk + 1) hxl hxn;rcases hkd with hk | hk | hk
 ·have g := g0 hk K;refine zc2 env0_ok _ (hL1 g) (fun _ => false) rfl rfl rfl ?_;refine zhj ?_;refine zaf rfl hlo (y09 _) rfl ?_;rw [hk];refine zgw ?_;refine zaf rfl hxl hxn rfl ?_;repeat (first | refine zan rfl ?_)
  refine zd5 rfl rfl (by show [AS.view _ VD (.mptr x sx 0), _] = _; rw [hvK]; rfl) zap (fun _ => rfl) ?_
  refine zli ?_;exact zab ⟨.inr rfl, _, rfl, rfl, hC2, hK2⟩
 ·have g := g1 hk K;refine zc2 env0_ok _ (hL1 g) (fun _ => false) rfl rfl rfl ?_;refine zhj ?_;refine zaf rfl hlo (y09 _) rfl ?_;rw [hk];refine zgw ?_;refine zaf rfl hxl hxn rfl ?_;repeat (first | refine zan rfl ?_)
  refine zd5 rfl rfl (by show [AS.view _ VD (.mptr x sx 0), _] = _; rw [hvK]; rfl) zap (fun _ => rfl) ?_
  refine zli ?_;exact zab ⟨.inr rfl, _, rfl, rfl, hC2, hK2⟩
 ·have g := g2 hk K;refine zc2 env0_ok _ (hL1 g) (fun _ => false) rfl rfl rfl ?_;refine zhj ?_;refine zaf rfl hlo (y09 _) rfl ?_;rw [hk];refine zgw ?_;refine zaf rfl hxl hxn rfl ?_;repeat (first | refine zan rfl ?_)
  refine zd5 rfl rfl (by show [AS.view _ VD (.mptr x sx 0), _] = _; rw [hvK]; rfl) zap (fun _ => rfl) ?_
  refine zli ?_;exact zab ⟨.inr rfl, _, rfl, rfl, hC2, hK2⟩
set_option maxRecDepth 100000
theorem lnT_inj {i j : Nat} (hi : i < 12) (hj : j < 12) (h : lnT i = lnT j) : i = j := by
 have key : ∀ i, i < 12 -> ∀ j, j < 12 -> lnT i = lnT j -> i = j := by decide
 exact key i hi j hj h
theorem nmd_new {c : Ctl} (h : Ct c) {k : Nat} (hk : k < 2 * c.act.toNat) : nmd c k ∉ (List.range k).map (nmd c) := fun hm => by
 obtain ⟨i, hi, e⟩ := y0p.1 hm;have hi := y0n.1 hi;have h6 := h.a6;rw [nmd_t hk, nmd_t (by omega)] at e;have := lnT_inj (by omega) (by omega) e;omega
theorem zmn (f : Nat -> List UInt8) (k : Nat) : (List.range (k + 1)).map f = (List.range k).map f ++ [f k] := by
 rw [List.range_succ, y11, y1a, List.map_nil]
theorem zf9 (l : List Int) : flat.flatL (l.map (AV.int .i64)) = true := by
 induction l with
 | nil => rfl
 | cons b l ih => exact ih
def b72_0 : IC := sR [oM 47 (.bin .lss (.t 46) (.t 45))]
 (.seq (.cond (.t 47) (.skip)
 (.exit 0))
 (.seq (.block 1 (sR [oT 48 46,
  oT 5 48]
 (.region [oT 49 4,
  oM 50 (.nilchk (.t 49)),
  oF 51 5 50,
  oN 52 51,
  oL 53 5 1,
  oT 54 5,
  oM 55 (.call (.c (.fn 107 [] [])) [(.t 53), (.t 54)]),
  oT 56 5,
  ⟨none, .mapset .str (.t 52) (.t 55) (.t 56), none⟩] (some [[], [0], [1], [2], [], [], [4, 5], [], [3, 6, 7, 6, 0, 1, 2, 3, 4, 5, 6, 7]]))))
 (.region [oM 57 (.bin .add (.t 46) (cI 1)),
  oT 46 57] none)))
def b72_2 : IC := sR [oM 62 (.bin .lss (.t 61) (.t 60))]
 (.seq (.cond (.t 62) (.skip)
 (.exit 2))
 (.seq (.block 3 (sR [oM 63 (.idxs 1 (.t 59) (.t 61)),
  oN 64 63,
  oT 7 64]
 (sR [oT 65 4,
  oT 66 7,
  oM 67 (.call (.c (.fn 108 [] [])) [(.t 65), (.t 66)]),
  oT 8 67]
 (sR [oT 68 8,
  oM 69 (.bin .neq (.t 68) (cI 0))]
 (.cond (.t 69) (sR [oT 70 8,
  oM 2 (.mov (.c (.top))),
  oT 3 70]
 (.ret))
 (.skip))))))
 (.region [oM 71 (.bin .add (.t 61) (cI 1)),
  oT 61 71] none)))
def b72_4 : IC := sR [oM 76 (.bin .lss (.t 75) (.t 74))]
 (.seq (.cond (.t 76) (.skip)
 (.exit 4))
 (.seq (.block 5 (sR [oT 77 75,
  oT 9 77]
 (sR [oT 78 4,
  oT 79 9,
  oM 80 (.call (.c (.fn 109 [] [])) [(.t 78), (.t 79)]),
  oT 10 80]
 (sR [oT 81 10,
  oM 82 (.bin .neq (.t 81) (cI 0))]
 (.cond (.t 82) (sR [oT 83 10,
  oM 2 (.mov (.c (.top))),
  oT 3 83]
 (.ret))
 (.skip))))))
 (.region [oM 84 (.bin .add (.t 75) (cI 1)),
  oT 75 84] none)))
-- pneumatic/control.check
def ic72 : IC := sR [oM 1 (.box (.t 0)),
  oM 2 (.mov (.c (.top))),
  oM 3 (.mov (cI 0))]
 (.seq (sR [oF 11 0 1,
  oN 12 11,
  oM 13 (.bin .lss (.t 12) (cI 1)),
  oT 14 13,
  ⟨(some 15), .faddr 0 (.t 1), some (14, false)⟩,
  ⟨(some 16), .load none (.t 15), some (14, false)⟩,
  ⟨(some 17), .bin .gtr (.t 16) (cI 6), some (14, false)⟩,
  oM 18 (.pick (.t 14) (.c (.bool true)) (.t 17))]
 (.cond (.t 18) (sR [oM 2 (.mov (.c (.top))),
  oM 3 (.mov (cI 2))]
 (.ret))
 (.skip)))
 (.seq (sR [oF 19 1 1,
  oN 20 19,
  oM 21 (.len false (.t 20)),
  oM 22 (.bin .gtr (.t 21) (cI 16)),
  oT 23 22,
  ⟨(some 24), .faddr 2 (.t 1), some (23, false)⟩,
  ⟨(some 25), .load none (.t 24), some (23, false)⟩,
  ⟨(some 26), .len false (.t 25), some (23, false)⟩,
  ⟨(some 27), .bin .gtr (.t 26) (cI 64), some (23, false)⟩,
  oM 28 (.pick (.t 23) (.c (.bool true)) (.t 27))]
 (.cond (.t 28) (sR [oM 2 (.mov (.c (.top))),
  oM 3 (.mov (cI 5))]
 (.ret))
 (.skip)))
 (sR [oL 29 5 1,
  oM 30 (.mkmap),
  oM 31 (.build [.int .i64 0, .nils, .nils, .nils, .nils, .top, .nilf, .nilf, .nilf] [(0, 5, (.t 29)), (5, 1, (.t 30))]),
  oM 32 (.box (.t 31)),
  oT 4 32]
 (sR [oT 33 4,
  oT 34 4,
  oM 35 (.mkfn 104 [(.t 34)] []),
  oT 36 4,
  oM 37 (.mkfn 105 [(.t 36)] []),
  oT 38 4,
  oM 39 (.mkfn 106 [(.t 38)] []),
  oM 40 (.build [.nilf, .nilf, .nilf] [(0, 1, (.t 35)), (1, 1, (.t 37)), (2, 1, (.t 39))]),
  oM 41 (.nilchk (.t 33)),
  oF 42 6 41,
  ⟨none, .store 3 (.t 42) (.t 40), none⟩]
 (.seq (sR [oF 43 0 1,
  oN 44 43,
  oM 45 (.bin .mul (cI 2) (.t 44)),
  oM 46 (.mov (cI 0))]
 (.block 0 (.loop b72_0)))
 (.seq (sR [oF 58 1 1,
  oN 59 58,
  oM 60 (.len false (.t 59)),
  oM 61 (.mov (cI 0))]
 (.block 2 (.loop b72_2)))
 (.seq (sR [oF 72 2 1,
  oN 73 72,
  oM 74 (.len false (.t 73)),
  oM 75 (.mov (cI 0))]
 (.block 4 (.loop b72_4)))
 (.seq (sR [oF 85 3 1,
  oN 86 85,
  oM 87 (.len false (.t 86)),
  oF 88 0 1,
  oN 89 88,
  oM 90 (.bin .neq (.t 87) (.t 89)),
  oT 91 90,
  ⟨(some 92), .faddr 4 (.t 1), some (91, false)⟩,
  ⟨(some 93), .load none (.t 92), some (91, false)⟩,
  ⟨(some 94), .len false (.t 93), some (91, false)⟩,
  ⟨(some 95), .faddr 0 (.t 1), some (91, false)⟩,
  ⟨(some 96), .load none (.t 95), some (91, false)⟩,
  ⟨(some 97), .bin .neq (.t 94) (.t 96), some (91, false)⟩,
  oM 98 (.pick (.t 91) (.c (.bool true)) (.t 97))]
 (.cond (.t 98) (sR [oM 2 (.mov (.c (.top))),
  oM 3 (.mov (cI 8))]
 (.ret))
 (.skip)))
 (.seq (sR [oF 99 3 1,
  oN 100 99,
  oF 101 4 1,
  oN 102 101,
  oM 103 (.bslice 1 2 [.nils, .nils] [(0, 1, (.t 100)), (1, 1, (.t 102))]),
  oM 104 (.call (.c (.fn 110 [] [])) [(.t 103)]),
  oM 105 (.mkfn 111 [] [(.t 1)]),
  oM 106 (.call (.c (.fn 84 [] [])) [(.t 104), (.t 105)])]
 (.cond (.t 106) (sR [oM 2 (.mov (.c (.top))),
  oM 3 (.mov (cI 6))]
 (.ret))
 (.skip)))
 (sR [oT 107 4,
  oM 108 (.nilchk (.t 107)),
  oF 109 5 108,
  oN 110 109,
  oT 2 110,
  oM 3 (.mov (cI 0))]
 (.ret)))))))))))
theorem fn72 : env0.fn 72 = some ⟨111, ic72, [.t 2, .t 3]⟩ := by kernel_rfl
set_option maxHeartbeats 8000000 in
set_option maxRecDepth 100000 in
theorem check72 {c : Ctl} (h : Ct c) : PF Tryz.prog 72 [.agg (cC c)] (.tup [.top, .int .i64 0]) := by
 have hn := zpf c.ins;have hg := ze7 c.sg;have hpz := zev c.pl;have hmz := zev c.mi;have a1 := h.a1;have a6 := h.a6;have i16 := h.i16;have s16 := h.s16;have hpl := h.pl;have hmi := h.mi;have hw : IntKind.wrap .i64 (2 * c.act) = 2 * c.act := zbe _ (by omega) (by omega);have hfs : fsC c = 2 * c.act.toNat + c.ins.length := rfl;have p107 := fun k (hk : k < lnC c) => named107 h.toSm a1 hk;refine za6 env0_ok fn72 [(0, .agg (cC c))] (y04 rfl) rfl fun w0 N0 => ?_;unfold ic72;unfold cC vsN vsG vsI at *;repeat (first | refine zb3 ?_ | refine za8 rfl ?_ | refine zb1 ?_ | refine zaw ?_ | refine zbg ?_ | refine zfw rfl ?_ | refine zic rfl ?_ | refine zan rfl ?_ | refine zb0 rfl rfl ?_ | refine zb6 rfl rfl rfl rfl ?_ | refine zah rfl ?_ | refine zbl rfl rfl ?_ | refine zdb rfl rfl ?_ | refine zcs rfl rfl ?_ | refine za3 rfl rfl rfl (fun h => absurd (of_decide_eq_true h) (by omega)) fun _ => ?_)
 refine o_mkmap ?_;refine zgw ?_;rw [hw];refine zav (fun mm S => ∃ (k : Nat) (hp : List (Nat × Nat × AObj)) (nx ck : Nat), mm = 2 * c.act.toNat - k /\ k <= 2 * c.act.toNat /\ Ck c 2 2 1 1 (F3 2 2) ((List.range k).map (nmd c)) ⟨hp, nx, ck⟩ /\ Am.look 0 hp = some (0, .cells (cC c)) /\ S = st 111 [(1, .mptr 0 0 0), (4, .mptr 2 2 0), (45, .int .i64 (2 * c.act)), (46, .int .i64 (k : Nat))] hp nx ck) (2 * c.act.toNat)
  skp ⟨0, _, _, _, rfl, y0q _, ⟨rfl, rfl, by show 2 < 3; decide, by show 1 < 3; decide, by decide⟩, rfl, rfl⟩ ?_
 rintro mm S ⟨k, hp, nx, ck, rfl, hk, hC, h0, rfl⟩;have h0n : 0 < nx := Nat.lt_trans (by decide) hC.lx;unfold b72_0;refine zhj ?_;refine za3 rfl rfl rfl (fun h3 => ?_) fun h3 => ?_
 ·have hlt : k < 2 * c.act.toNat := by have := of_decide_eq_true h3; omega
  have p := p107 k (by unfold lnC; omega);have hnew := nmd_new h hlt;have hgn := zqx _ (.int .i64 ((k : Nat) : Int)) _ 0 hnew;have hsn := zks ((List.range k).map (nmd c)) 0 (nmd c k);rw [y06, y2j, y1g] at hsn;rw [<- hsn, <- zmn] at hgn;have w1 := za9 k (by omega);have hx := hC.hx;have hm := hC.hm;have lx := hC.lx;have lm := hC.lm;have hpu := hC.put (ks' := (List.range (k + 1)).map (nmd c));generalize nmd c k = nk at *;refine zli ?_;refine zc2 env0_ok _ (hL1 p) (fun g => Nat.beq g 107) rfl rfl rfl ?_;refine zji ?_;refine zaf rfl hx lx rfl ?_;refine zb9 rfl h0 h0n rfl rfl ?_;refine zgw ?_;refine zse rfl rfl rfl hm hgn ?_;refine zlj ?_;rw [w1];exact zad (show 2 * c.act.toNat - (k + 1) < 2 * c.act.toNat - k by omega) skp ⟨k + 1, _, _, _, rfl, hlt, hpu, by rw [za0, if_neg (by decide)]; exact h0, rfl⟩
 have hke : k = 2 * c.act.toNat := by have := of_decide_eq_false h3; omega
 subst hke;refine zfj ?_;refine zbp ?_;refine zfj ?_;refine zaf rfl h0 h0n rfl ?_;refine zil ?_;rw [hn];refine zav (fun mm S => ∃ (k : Nat) (hp : List (Nat × Nat × AObj)) (nx ck : Nat), mm = c.ins.length - k /\ k <= c.ins.length /\ Ck c 2 2 1 1 (F3 2 2) ((List.range (2 * c.act.toNat + k)).map (nmd c)) ⟨hp, nx, ck⟩ /\ Am.look 0 hp = some (0, .cells (cC c)) /\ S = st 111 [(1, .mptr 0 0 0), (4, .mptr 2 2 0), (59, vsN c.ins), (60, .int .i64 (c.ins.length : Nat)), (61, .int .i64 (k : Nat))] hp nx ck) c.ins.length
  skp ⟨0, _, _, _, rfl, y0q _, hC, h0, rfl⟩ ?_
 clear hC h0 h0n h3;rintro mm S ⟨k, hp, nx, ck, rfl, hk, hC, h0, rfl⟩;have h0n : 0 < nx := Nat.lt_trans (by decide) hC.lx;unfold b72_2 vsN;refine zhj ?_;refine za3 rfl rfl rfl (fun h3 => ?_) fun h3 => ?_
 ·have hlt : k < c.ins.length := y1r.1 (of_decide_eq_true h3);have hge := n_get hlt;have hnf := zs7 (h.nme (2 * c.act.toNat + k) (by omega) (by unfold lnC; omega));have hsn := zmn (nmd c) (2 * c.act.toNat + k);rw [nmd_i (by omega) (by omega), show 2 * c.act.toNat + k - 2 * c.act.toNat = k by omega] at hnf hsn
  have w1 := za9 k (by omega);generalize nA c.ins k = s at *;have hpu := hC.put (ks' := (List.range (2 * c.act.toNat + k)).map (nmd c) ++ [s]);refine zil ?_;refine zjn _ rfl rfl (zc4 (zwd hnf.1 hnf.2.1 hnf.2.2 ⟨_, _, _⟩ hC)) (fun v H hF => fun m hm => absurd hm y07) fun v H2 hF => ?_;obtain ⟨rfl, rfl⟩ := hF;refine zfj ?_;rw [w1];exact zad (show c.ins.length - (k + 1) < c.ins.length - k by omega) skp ⟨k + 1, _, _, _, rfl, hlt, by rw [<- y28, hsn]; exact hpu, by rw [za0, if_neg (by decide)]; exact h0, rfl⟩
 have hke : k = c.ins.length := by
  have h4 : ¬ ((k : Nat) : Int) < (c.ins.length : Nat) := of_decide_eq_false h3;omega
 subst hke;refine zfj ?_;refine zbp ?_;refine zfj ?_;refine zaf rfl h0 h0n rfl ?_;refine zil ?_;rw [hg];rw [<- hfs] at hC;refine zav (fun mm S => ∃ (k : Nat) (hp : List (Nat × Nat × AObj)) (nx ck : Nat), mm = c.sg.length - k /\ k <= c.sg.length /\ Ck c 2 2 1 1 (F3 2 2) ((List.range (fsC c + k)).map (nmd c)) ⟨hp, nx, ck⟩ /\ Am.look 0 hp = some (0, .cells (cC c)) /\ S = st 111 [(1, .mptr 0 0 0), (4, .mptr 2 2 0), (74, .int .i64 (c.sg.length : Nat)), (75, .int .i64 (k : Nat))] hp nx ck) c.sg.length
  skp ⟨0, _, _, _, rfl, y0q _, hC, h0, rfl⟩ ?_
 clear hC h0 h0n h3;rintro mm S ⟨k, hp, nx, ck, rfl, hk, hC, h0, rfl⟩;have h0n : 0 < nx := Nat.lt_trans (by decide) hC.lx;unfold b72_4;refine zhj ?_;refine za3 rfl rfl rfl (fun h3 => ?_) fun h3 => ?_
 ·have hlt : k < c.sg.length := y1r.1 (of_decide_eq_true h3);have w1 := za9 k (by omega);refine zli ?_;refine zjn _ rfl rfl (zc4 (zx3 h hlt ⟨_, _, _⟩ hC)) (fun v H hF => fun m hm => absurd hm y07) fun v H2 hF => ?_;obtain ⟨rfl, hC2, hK2⟩ := hF;refine zfj ?_;rw [w1];exact zad (show c.sg.length - (k + 1) < c.sg.length - k by omega) skp ⟨k + 1, _, _, _, rfl, hlt, hC2, (hK2.look 0 (by decide) h0n).trans h0, rfl⟩
 have hke : k = c.sg.length := by
  have h4 : ¬ ((k : Nat) : Int) < (c.sg.length : Nat) := of_decide_eq_false h3;omega
 subst hke;refine zfj ?_;refine zbp ?_;repeat (first | refine zer (zaw ?_))
 refine zck [(some (2, 2), cC c ++ [.top, .top, .top, .top])] [(0, 0, cC c)] [(1, .vptr (cC c)), (4, .mptr 0 0 0)] rfl (.cons h0 rfl .nil) (.cons hC.hx (.cons (.same rfl) (.cons (.same rfl) (.cons (.same rfl) (.cons (.same rfl) (.cons (.same rfl) (.cons .top (.cons .top (.cons .top (.cons .top .nil))))))))) .nil) (.cons rfl (.fptr rfl rfl) (.cons rfl (.mptr rfl) .nil)) ?_;have hcat := (zv3 [c.pl, c.mi] (by show 2 <= 1000; decide) (by show 1 <= c.pl.length + (c.mi.length + 0); omega) (by show c.pl.length + (c.mi.length + 0) <= 100000; omega))
 have p84 := zii (P := outB c) (g := 111) (fi := []) (ca := [.vptr (cC c)]) (fun z => check111 h.toSm z) (fun S => ⟨rfl, rfl⟩) (fun S => rfl) [c.pl, c.mi].flatten (by show (c.pl ++ (c.mi ++ [])).length <= _; simp; omega)
 have hout : [c.pl, c.mi].flatten.any (outB c) = false := by
  rw [List.any_eq_false];intro z hz;have hb : ∀ l : List Int, plB c l = true -> z ∈ l -> ¬ outB c z = true := fun l hl hm => by
   unfold plB at hl;rw [y0h] at hl;have := hl z hm;simp only [y0g, decide_eq_true_eq] at this;unfold outB;simp;omega
  rw [y1d, y1d, List.flatten_nil, y0u] at hz;rcases y1s.1 hz with hz | hz
  ·exact hb _ hpl.2 hz
  ·exact hb _ hmi.2 hz
 rw [hout] at p84;unfold cC vsI at *;refine zil ?_;rw [hpz];refine za3 rfl rfl rfl (fun h => absurd hpl.1 (bne_iff_ne.1 h)) fun _ => ?_;refine zji ?_;rw [hmz];refine za3 rfl rfl rfl (fun h => absurd hmi.1 (bne_iff_ne.1 h)) fun _ => ?_;refine zgw ?_;refine zwi rfl rfl hcat (zf9 _) ?_;repeat (first | refine zmj rfl rfl ?_)
 refine zak rfl (by show [AS.view _ VD (.ms _ _ 1 0 _ none), AS.view _ VD (.fn 111 [] [.vptr _])] = _; rw [show VD = (VD - 1) + 1 from rfl, zfg [c.pl, c.mi].flatten rfl rfl]; rfl) p84 (fun _ => rfl) ?_
 refine zji ?_;exact uE
-- pneumatic/control.Check
def ic45 : IC := sR [oM 1 (.box (.t 0)),
  oM 2 (.mov (cI 0))]
 (sR [oL 6 5 1,
  oM 7 (.call (.c (.fn 72 [] [])) [(.t 6)]),
  oT 5 7,
  oM 8 (.extract (.t 5) 0),
  oM 9 (.extract (.t 5) 1),
  oT 3 8,
  oT 4 9]
 (sR [oT 10 4,
  oT 2 10]
 (.ret)))
theorem fn45 : env0.fn 45 = some ⟨11, ic45, [.t 2]⟩ := by kernel_rfl
theorem check45 {c : Ctl} (h : Ct c) : PF Tryz.prog 45 [.agg (cC c)] (.int .i64 0) := by
 have p := check72 h;refine za6 env0_ok fn45 [(0, .agg (cC c))] (y04 rfl) rfl fun w0 N0 => ?_;unfold ic45;unfold cC at *;refine zgw ?_;exact uE
set_option maxRecDepth 100000
def unB (m z : Int) : Bool := decide (z < 0) || decide (z >= m)
-- pneumatic/control.fits$1$1
def ic83 : IC := sR [oM 3 (.mov (.c (.bool false)))]
 (sR [oT 4 0,
  oM 5 (.bin .lss (.t 4) (cI 0)),
  oT 6 5,
  ⟨(some 7), .mov (.t 0), some (6, false)⟩,
  ⟨(some 8), .load none (.t 1), some (6, false)⟩,
  ⟨(some 9), .bin .geq (.t 7) (.t 8), some (6, false)⟩,
  oM 10 (.pick (.t 6) (.c (.bool true)) (.t 9)),
  oT 3 10]
 (.ret))
theorem fn83 : env0.fn 83 = some ⟨11, ic83, [.t 3]⟩ := by kernel_rfl
set_option maxRecDepth 100000 in
theorem fits83 (m z : Int) : PF Tryz.prog 83 [.int .i64 z, .vptr [.int .i64 m]] (.bool (unB m z)) := by
 refine za6 env0_ok fn83 [(0, .int .i64 z), (1, .vptr [.int .i64 m])] (y04 rfl) rfl fun w0 N0 => ?_;unfold ic83 unB;refine zhj ?_;refine za3 rfl rfl rfl (fun h => ?_) fun h => ?_
 ·rw [show decide (z < 0) = true from h]
  refine zgw ?_;exact uE
 ·rw [show decide (z < 0) = false from h]
  refine zji ?_;refine za3 rfl rfl rfl (fun h => ?_) fun h => ?_;all_goals
   have h : decide (z >= m) = _ := h;rw [h];refine zji ?_;exact uE
-- pneumatic/control.fits$1
def ic82 : IC := sR [oM 1 (.box (.t 0)),
  oM 2 (.mov (.c (.nilf)))]
 (sR [oM 3 (.mkfn 83 [] [(.t 1)]),
  oT 2 3]
 (.ret))
theorem fn82 : env0.fn 82 = some ⟨4, ic82, [.t 2]⟩ := by kernel_rfl
theorem fits82 (m : Int) : PF Tryz.prog 82 [.int .i64 m] (.fn 83 [] [.vptr [.int .i64 m]]) := by
 refine za6 env0_ok fn82 [(0, .int .i64 m)] (y04 rfl) rfl fun w0 N0 => ?_;unfold ic82;refine zgw ?_;exact uE
theorem zxh {l : List Int} {m : Int} (h : inR l m) : l.any (unB m) = false := by
 rw [List.any_eq_false];intro z hz;obtain ⟨j, hj, rfl⟩ := List.getElem_of_mem hz;have := h j hj;have e1 : zA l j = l[j] := by unfold zA; rw [y0k, y0e hj]; rfl
 rw [e1] at this;unfold unB;simp;omega
theorem zmb {f g : FuncId} {args xs : List AV} {v u : AV} {l : List (FuncId × List AV × AV)} (hn : xs ≠ args) (h : zeu l f args = some v) : zeu ((g, xs, u) :: l) f args = some v := by simp [zeu, hn, h]
def b57_0 : IC := sR [oM 66 (.bin .lss (.t 65) (.t 64))]
 (.seq (.cond (.t 66) (.skip)
 (.exit 0))
 (.seq (.block 1 (sR [oT 67 65,
  oM 68 (.idxs 1 (.t 63) (.t 65)),
  oN 69 68,
  oT 7 67,
  oT 8 69]
 (sR [oF 70 2 2,
  oN 71 70,
  oT 72 7,
  oM 73 (.idxs 10 (.t 71) (.t 72)),
  oF 74 1 73,
  oN 75 74,
  oM 76 (.bin .eql (.t 75) (cI 2)),
  oT 9 76]
 (sR [oT 77 9,
  oM 78 (.un .not (.t 77)),
  oT 79 78,
  ⟨(some 80), .mov (.t 8), some (79, true)⟩,
  ⟨(some 81), .bin .neq (.t 80) (cI 0), some (79, true)⟩,
  oM 82 (.pick (.t 79) (.t 81) (.c (.bool false))),
  oT 83 82,
  ⟨(some 84), .mov (.t 9), some (83, false)⟩,
  ⟨(some 85), .mov (.t 84), some (83, false)⟩,
  ⟨(some 86), .faddr 3 (.t 3), some (85, true)⟩,
  ⟨(some 87), .load none (.t 86), some (85, true)⟩,
  ⟨(some 88), .mov (.t 7), some (85, true)⟩,
  ⟨(some 89), .idxs 1 (.t 87) (.t 88), some (85, true)⟩,
  ⟨(some 90), .load none (.t 89), some (85, true)⟩,
  ⟨(some 91), .mov (.t 8), some (85, true)⟩,
  ⟨(some 92), .bin .eql (.t 91) (cI 2), some (85, true)⟩,
  ⟨(some 93), .eqb true (.t 90) (.t 92), some (85, true)⟩,
  ⟨(some 94), .pick (.t 85) (.t 93) (.c (.bool false)), some (83, false)⟩,
  oM 95 (.pick (.t 83) (.c (.bool true)) (.t 94))]
 (.cond (.t 95) (sR [oM 4 (.mov (cI 14))]
 (.ret))
 (.skip))))))
 (.region [oM 96 (.bin .add (.t 65) (cI 1)),
  oT 65 96] none)))
-- pneumatic/control.fits
def ic57 : IC := sR [oM 2 (.box (.t 0)),
  oM 3 (.box (.t 1)),
  oM 4 (.mov (cI 0))]
 (sR [oF 10 2 2,
  oN 11 10,
  oM 12 (.len false (.t 11)),
  oT 5 12]
 (.seq (sR [oF 13 0 3,
  oN 14 13,
  oM 15 (.len false (.t 14)),
  oF 16 0 2,
  oN 17 16,
  oM 18 (.bin .neq (.t 15) (.t 17)),
  oT 19 18,
  ⟨(some 20), .faddr 1 (.t 3), some (19, false)⟩,
  ⟨(some 21), .load none (.t 20), some (19, false)⟩,
  ⟨(some 22), .len false (.t 21), some (19, false)⟩,
  ⟨(some 23), .faddr 0 (.t 2), some (19, false)⟩,
  ⟨(some 24), .load none (.t 23), some (19, false)⟩,
  ⟨(some 25), .bin .neq (.t 22) (.t 24), some (19, false)⟩,
  oM 26 (.pick (.t 19) (.c (.bool true)) (.t 25)),
  oT 27 26,
  ⟨(some 28), .faddr 2 (.t 3), some (27, false)⟩,
  ⟨(some 29), .load none (.t 28), some (27, false)⟩,
  ⟨(some 30), .len false (.t 29), some (27, false)⟩,
  ⟨(some 31), .faddr 1 (.t 2), some (27, false)⟩,
  ⟨(some 32), .load none (.t 31), some (27, false)⟩,
  ⟨(some 33), .len false (.t 32), some (27, false)⟩,
  ⟨(some 34), .bin .neq (.t 30) (.t 33), some (27, false)⟩,
  oM 35 (.pick (.t 27) (.c (.bool true)) (.t 34)),
  oT 36 35,
  ⟨(some 37), .faddr 3 (.t 3), some (36, false)⟩,
  ⟨(some 38), .load none (.t 37), some (36, false)⟩,
  ⟨(some 39), .len false (.t 38), some (36, false)⟩,
  ⟨(some 40), .mov (.t 5), some (36, false)⟩,
  ⟨(some 41), .bin .neq (.t 39) (.t 40), some (36, false)⟩,
  oM 42 (.pick (.t 36) (.c (.bool true)) (.t 41)),
  oT 43 42,
  ⟨(some 44), .faddr 4 (.t 3), some (43, false)⟩,
  ⟨(some 45), .load none (.t 44), some (43, false)⟩,
  ⟨(some 46), .len false (.t 45), some (43, false)⟩,
  ⟨(some 47), .mov (.t 5), some (43, false)⟩,
  ⟨(some 48), .bin .neq (.t 46) (.t 47), some (43, false)⟩,
  oM 49 (.pick (.t 43) (.c (.bool true)) (.t 48))]
 (.cond (.t 49) (sR [oM 4 (.mov (cI 8))]
 (.ret))
 (.skip)))
 (sR [oM 6 (.mov (.c (.fn 82 [] [])))]
 (.seq (.seq (.region [oF 50 0 3,
  oN 51 50,
  oT 52 6,
  oM 53 (.call (.t 52) [(cI 4)]),
  oM 54 (.call (.c (.fn 84 [] [])) [(.t 51), (.t 53)]),
  oT 55 54,
  ⟨(some 56), .faddr 4 (.t 3), some (55, false)⟩,
  ⟨(some 57), .load none (.t 56), some (55, false)⟩,
  ⟨(some 58), .mov (.t 6), some (55, false)⟩,
  ⟨(some 59), .call (.t 58) [(cI 3)], some (55, false)⟩,
  ⟨(some 60), .call (.c (.fn 84 [] [])) [(.t 57), (.t 59)], some (55, false)⟩,
  oM 61 (.pick (.t 55) (.c (.bool true)) (.t 60))] (some [[], [0], [], [2], [1, 3, 3], [4, 4], [5], [6, 5], [5], [8, 5, 5], [7, 9, 9, 5], [5, 10]]))
 (.cond (.t 61) (sR [oM 4 (.mov (cI 1))]
 (.ret))
 (.skip)))
 (.seq (sR [oF 62 4 3,
  oN 63 62,
  oM 64 (.len false (.t 63)),
  oM 65 (.mov (cI 0))]
 (.block 0 (.loop b57_0)))
 (sR [oM 4 (.mov (cI 0))]
 (.ret)))))))
theorem fn57 : env0.fn 57 = some ⟨97, ic57, [.t 4]⟩ := by kernel_rfl
set_option maxHeartbeats 8000000 in
set_option maxRecDepth 100000 in
theorem fits57 {c : Ctl} {s : Sta} (h : Ct c) (hs : Ss c s) : PF Tryz.prog 57 [.agg (cC c), .agg (cS s)] (.int .i64 0) := by
 have hn := zpf c.ins;have hg := ze7 c.sg;have he := zev s.en;have hv := zhd s.va;have hi := zhd s.inp;have hb := zhd s.vals;have ht := zev s.tms;have he40 := hs.e;have hs128 := h.s;have ht200 := hs.t;obtain ⟨k1, k2, k3, k4, k5⟩ := hs.sh;have p84e := zii (P := unB 4) (g := 83) (fi := []) (ca := [.vptr [.int .i64 4]]) (fun z => fits83 4 z) (fun S => ⟨rfl, rfl⟩) (fun S => rfl) s.en (by omega);have p84t := zii (P := unB 3) (g := 83) (fi := []) (ca := [.vptr [.int .i64 3]]) (fun z => fits83 3 z) (fun S => ⟨rfl, rfl⟩) (fun S => rfl) s.tms (by omega);rw [zxh hs.e4] at p84e;rw [zxh hs.t3] at p84t;have p4 := fits82 4;have p3 := fits82 3;refine za6 env0_ok fn57 [(0, .agg (cC c)), (1, .agg (cS s))] (y04 rfl) rfl fun w0 N0 => ?_;unfold ic57;have k3' : ((s.inp.length : Nat) : Int) = (c.ins.length : Nat) := by omega
 have k4' : ((s.vals.length : Nat) : Int) = (c.sg.length : Nat) := by omega
 have k5' : ((s.tms.length : Nat) : Int) = (c.sg.length : Nat) := by omega
 unfold cC cS vsN vsG vsI vsB at *;refine zil ?_;rw [he];refine za3 rfl rfl rfl (fun h1 => absurd k1 (bne_iff_ne.1 h1)) fun _ => ?_;refine zji ?_;rw [hv];refine za3 rfl rfl rfl (fun h1 => absurd k2 (bne_iff_ne.1 h1)) fun _ => ?_;refine zji ?_;rw [hi, hn];refine za3 rfl rfl rfl (fun h1 => absurd k3' (bne_iff_ne.1 h1)) fun _ => ?_;refine zji ?_;rw [hb, hg];refine za3 rfl rfl rfl (fun h1 => absurd k4' (bne_iff_ne.1 h1)) fun _ => ?_;refine zji ?_;rw [ht];refine za3 rfl rfl rfl (fun h1 => absurd k5' (bne_iff_ne.1 h1)) fun _ => ?_;refine zji ?_;refine zck [] [(0, 0, cC c), (1, 1, cS s)] [(2, .vptr (cC c)), (3, .vptr (cS s)), (4, .int .i64 0), (6, .fn 82 [] [])] rfl (.cons rfl rfl (.cons rfl rfl .nil)) .nil (.cons rfl (.fptr rfl rfl) (.cons rfl (.fptr rfl rfl) (.cons rfl (.same rfl) (.cons rfl (.same rfl) .nil)))) ?_;unfold cC cS vsN vsG vsI vsB at *;refine zia env0_ok ((82, [.int .i64 4], _) :: (82, [.int .i64 3], _) :: _) (fun x hx => by
  rcases y0d.1 hx with rfl | hx
  ·exact p4
  ·rcases y0d.1 hx with rfl | hx
   ·exact p3
   ·exact hL2 p84e p84t x hx) (fun g => Nat.beq g 84) [] (fun x hx => by cases hx) false (fun _ => false) (fun _ => true) (fun _ _ => rfl) (fun _ h _ => Bool.noConfusion h) rfl rfl rfl rfl ?_
 refine zil ?_;refine zd5 rfl rfl rfl zap noC ?_;refine zgw ?_;refine zd5 rfl rfl rfl (zmb (fun e => by injection e with e; injection e with _ e; exact absurd e (by decide)) zap) noC ?_;repeat (first | refine zic rfl ?_)
 refine zak rfl rfl (zc7 (by decide) (zc7 (by decide) (zmb (fun e => by
  injection e with _ e; injection e with e; injection e with _ _ e; injection e with e; injection e with e; injection e with e; injection e with _ e; exact absurd e (by decide)) zap))) noC ?_
 refine zji ?_;rw [ht];refine zav (fun mm S => ∃ j, mm = s.tms.length - j /\ j <= s.tms.length /\ S = st 97 [(2, .vptr (cC c)), (3, .vptr (cS s)), (63, vsI s.tms), (64, .int .i64 (s.tms.length : Nat)), (65, .int .i64 (j : Nat))] [] 0 1) s.tms.length
  skp ⟨0, rfl, y0q _, rfl⟩ ?_
 rintro mm S ⟨j, rfl, hj, rfl⟩;unfold b57_0 cS cC vsI vsB vsG;refine zhj ?_;refine za3 rfl rfl rfl (fun h3 => ?_) fun h3 => ?_
 ·have hlt : j < s.tms.length := y1r.1 (of_decide_eq_true h3);have hgt := zib hlt;have hgb := zpy (l := s.vals) (i := j) (by omega);have hgs := zdn (sg := c.sg) (i := j) (by omega);have htk := hs.tk j hlt;have w2 := za9 j (by omega);unfold tkB at htk;generalize zA s.tms j = z at *;generalize bA s.vals j = b at *;generalize sgA c.sg j = sj at *;refine zil ?_;refine za3 rfl rfl rfl (fun h5 => ?_) fun h5 => ?_
  ·have h5 : sj.kd = 2 := by simpa using h5
   rw [if_pos h5] at htk;refine zgw ?_;refine za3 rfl rfl rfl (fun h6 => ?_) fun h6 => ?_
   ·have h6 : z = 2 := by simpa using h6
    have hb1 : b = true := by simpa [h6] using htk
    subst hb1;refine zgw ?_;rw [w2];exact zad (show s.tms.length - (j + 1) < s.tms.length - j by omega) skp ⟨j + 1, rfl, hlt, rfl⟩
   ·have h6 : ¬ z = 2 := by simpa using h6
    have hb1 : b = false := by simpa [h6] using htk
    subst hb1;refine zgw ?_;rw [w2];exact zad (show s.tms.length - (j + 1) < s.tms.length - j by omega) skp ⟨j + 1, rfl, hlt, rfl⟩
  ·have h5 : ¬ sj.kd = 2 := by simpa using h5
   rw [if_neg h5] at htk;have h6 : z = 0 := by simpa using htk
   subst h6;refine zgw ?_;rw [w2];exact zad (show s.tms.length - (j + 1) < s.tms.length - j by omega) skp ⟨j + 1, rfl, hlt, rfl⟩
 ·refine zfj ?_;refine zbp ?_;refine zfj ?_;exact uE
-- pneumatic/control.Right
def ic30 : IC := sR [oM 2 (.box (.t 0)),
  oM 3 (.box (.t 1)),
  oM 4 (.mov (cI 0))]
 (.seq (sR [oL 6 5 2,
  oM 7 (.call (.c (.fn 45 [] [])) [(.t 6)]),
  oT 5 7]
 (sR [oT 8 5,
  oM 9 (.bin .neq (.t 8) (cI 0))]
 (.cond (.t 9) (sR [oT 10 5,
  oT 4 10]
 (.ret))
 (.skip))))
 (sR [oL 11 5 2,
  oL 12 5 3,
  oM 13 (.call (.c (.fn 57 [] [])) [(.t 11), (.t 12)]),
  oT 4 13]
 (.ret)))
theorem fn30 : env0.fn 30 = some ⟨14, ic30, [.t 4]⟩ := by kernel_rfl
set_option maxRecDepth 100000 in
theorem zqv {c : Ctl} {s : Sta} (h : Ct c) (hs : Ss c s) : PF Tryz.prog 30 [.agg (cC c), .agg (cS s)] (.int .i64 0) := by
 have p45 := check45 h;have p57 := fits57 h hs;refine za6 env0_ok fn30 [(0, .agg (cC c)), (1, .agg (cS s))] (y04 rfl) rfl fun w0 N0 => ?_;unfold ic30;unfold cC cS at *;refine zfj ?_;exact uE
set_option maxRecDepth 100000
def Gq (sz b : Nat) (es : List (List AV)) (w : AV) (hp : List (Nat × Nat × AObj)) (nx : Nat) : Prop :=
 (es = [] /\ w = .nils) \/ ∃ id sp, w = .ms id sp sz 0 es.length none /\ Am.look id hp = some (sp, .cells es.flatten) /\ b <= id /\ id < nx /\ es ≠ []
theorem zrq {sz : Nat} : ∀ {es : List (List AV)}, (∀ e ∈ es, e.length = sz) -> es.flatten.length = es.length * sz
 | [], _ => by simp
 | e :: es, h => by
  rw [y1d, y0o, h e (y01 ..), zrq fun x hx => h x (y0c _ hx), y1e, y2m];omega
section
variable {P : Program} {w0 : World} {N0 : Nat} {k : List Fr} {Q : Exit -> AS -> Prop} {ios : List Opr} {n nx ck : Nat} {md : Md} {l : List (Nat × AV)} {hp : List (Nat × Nat × AObj)} {sz b : Nat} {es : List (List AV)} {w : AV}
theorem Gq.fresh (h : Gq sz b es w hp nx) (ck : Nat) (x : AObj) : Gq sz b es w ((nx, ck, x) :: hp) (nx + 1) := by
 rcases h with h | ⟨id, sp, e, hl, h1, h2, h3⟩
 ·exact .inl h
 ·exact .inr ⟨id, sp, e, by rw [zax, if_neg (by omega)]; exact hl, h1, by omega, h3⟩
theorem Gq.of {hp' : List (Nat × Nat × AObj)} {nx' : Nat} (h : Gq sz b es w hp nx) (hn : nx <= nx') (hk : ∀ i, b <= i -> i < nx -> Am.look i hp' = Am.look i hp) : Gq sz b es w hp' nx' := by
 rcases h with h | ⟨id, sp, e, hl, h1, h2, h3⟩
 ·exact .inl h
 ·exact .inr ⟨id, sp, e, (hk id h1 h2).trans hl, h1, by omega, h3⟩
theorem zkx {pf : Kn} {d bytes : Nat} {z : List AV} {s x : Arg} {xv : AV} (es2 : List (List AV)) (hG : Gq sz b es w hp nx) (hsz : ∀ e ∈ es, e.length = sz) (hs : zas s l = some w) (hx : zas x l = some xv) (he : (st n l hp nx ck []).elems sz xv = some es2) (hc : es2.flatten.all AV.isCell = true) (hb : bytes <= 16777216) (hbn : b <= nx) (hle : es.length + es2.length <= 1000000)
  (go : ∀ w' hp' nx' ck', Gq sz b (es ++ es2) w' hp' nx' -> nx <= nx' -> (∀ i, i < b -> Am.look i hp' = Am.look i hp) -> Om P w0 N0 md pf ios (st n ((d, w') :: l) hp' nx' ck') k Q)
  (hxo : Ops pf (st n l hp nx ck) (.append sz bytes z s x) := by first | exact fun _ _ _ _ _ _ _ => rfl | exact apOk rfl rfl | exact zwf rfl) :
  Om P w0 N0 md pf (⟨some d, .append sz bytes z s x, none⟩ :: ios) (st n l hp nx ck) k Q := by
 by_cases h0 : es2 = []
 ·subst h0;have g := go w hp nx ck (by rw [y0u]; exact hG) (y08 _) fun _ _ => rfl;have hi : iop (st n l hp nx ck) (.append sz bytes z s x) = some (w, st n l hp nx ck) := by
   simp only [iop, zai, hs, hx, he];rcases hG with ⟨rfl, rfl⟩ | ⟨id, sp, rfl, _, _, _⟩ <;> rfl
  exact zdc hi g hxo
 ·have hl0 : ¬ es2.length = 0 := fun e => h0 (y0l.1 e);rcases hG with ⟨rfl, rfl⟩ | ⟨id, sp, rfl, hl, h1, h2, h3⟩
  ·have hi : iop (st n l hp nx ck) (.append sz bytes z s x) = some (.ms nx ck sz 0 es2.length none, st n l ((nx, ck, .cells es2.flatten) :: hp) (nx + 1) (ck + 1)) := by
    simp only [iop, zai, hs, hx, he];unfold zc6;rw [if_neg hl0, if_pos ⟨hc, hb⟩];dsimp only;rw [if_pos (by omega)];rfl
   exact zdc hi (go _ _ _ _ (.inr ⟨nx, ck, rfl, za4, hbn, y09 _, h0⟩) (y0x _) fun i hi => by rw [zax, if_neg (by omega)]) hxo
  ·refine zqp es2 hs hx he hl0 hc hb hl (zrq hsz).symm (by omega) ?_ hxo;refine go _ _ _ _ (.inr ⟨id, ck, by rw [y0o], by rw [za0, if_pos rfl, List.flatten_append], h1, h2, fun e => h0 (List.append_eq_nil_iff.1 e).2⟩) (y08 _) fun i hi => by rw [za0, if_neg (by omega)]
end
def bC (l : List Bool) : List AV := l.map AV.bool
def zC (l : List Int) : List AV := l.map (AV.int .i64)
theorem zde (l : List Bool) : flat.flatL (bC l) = true := by
 unfold bC
 induction l with
 | nil => rfl
 | cons b l ih => exact ih
theorem zk0 (l : List Bool) : (bC l).all AV.isCell = true := by
 unfold bC;rw [y0h];intro x hx;obtain ⟨_, _, rfl⟩ := y0p.1 hx;rfl
theorem zpv (l : List Int) : (zC l).all AV.isCell = true := by
 unfold zC;rw [y0h];intro x hx;obtain ⟨_, _, rfl⟩ := y0p.1 hx;rfl
theorem zbh {α : Type} (f : α -> AV) (l : List α) : (l.map fun x => ([f x] : List AV)).flatten = l.map f := by
 induction l with
 | nil => rfl
 | cons v l ih => rw [y1a, y1d, ih]; rfl
theorem zbv {S : AS} {d id sp len : Nat} {cap : Option Nat} (a : List Bool) (hn : a.length = len) (hl : Am.look id S.heap = some (sp, .cells (bC a))) : S.view (d + 1) (.ms id sp 1 0 len cap) = vsB a := by
 subst hn;have e : S.elems 1 (.ms id sp 1 0 a.length cap) = some (a.map fun b => ([.bool b] : List AV)) := by
  have hf : bC a = (a.map fun b => ([.bool b] : List AV)).flatten := (zbh AV.bool a).symm;have hh : ∀ x ∈ (a.map fun b => ([.bool b] : List AV)), x.length = 1 := fun x hx => by obtain ⟨_, _, rfl⟩ := y0p.1 hx; rfl
  have hch := zly hh;rw [y06, <- hf] at hch;simp only [AS.elems, hl];rw [if_pos ⟨trivial, trivial, by unfold bC; rw [y06]; omega⟩, y26, hch]
 simp only [AS.view, e];unfold vsB;rw [y1x];refine congrArg AV.vs (List.map_congr_left fun b _ => ?_);cases d <;> rfl
-- slices.Clone[[]int,int]
def ic58 : IC := sR [oM 2 (.mov (.c (.nils)))]
 (.seq (sR [oT 3 0,
  oM 4 (.nilq false (.t 3))]
 (.cond (.t 4) (sR [oM 2 (.mov (.c (.nils)))]
 (.ret))
 (.skip)))
 (sR [oM 5 (.bslice 1 0 [] []),
  oT 6 0,
  oM 7 (.append 1 8 [.int .i64 0] (.t 5) (.t 6)),
  oT 2 7]
 (.ret)))
theorem fn58 : env0.fn 58 = some ⟨8, ic58, [.t 2]⟩ := by kernel_rfl
set_option maxRecDepth 100000 in
theorem zn9 (l : List Int) (hl : l.length <= 1000000) : PF Tryz.prog 58 [vsI l] (vsI l) := by
 cases l with
 | nil =>
  refine za6 env0_ok fn58 [(0, vsI [])] (y04 rfl) rfl fun w0 N0 => ?_;unfold ic58 vsI;refine zdo ?_;refine o_nilq rfl fun b => ?_;cases b with
  | true =>
   refine zbt ?_;exact uE
  | false =>
   refine zbf ?_;exact uE
 | cons x l =>
  have hce := zpv (x :: l);have hlm : ((x :: l).map fun b => ([AV.int .i64 b] : List AV)).length = (x :: l).length := y06 ..;have hfl := zbh (AV.int .i64) (x :: l);refine za6 env0_ok fn58 [(0, vsI (x :: l))] (y04 rfl) rfl fun w0 N0 => ?_;unfold ic58 vsI;refine zdo ?_;refine zdc (v := .bool false) rfl ?_ (by trivial);refine zbf ?_;refine zf1 ((x :: l).map fun b => ([AV.int .i64 b] : List AV)) rfl rfl (zd1 fun x hx => by obtain ⟨_, _, rfl⟩ := y0p.1 hx; rfl) (by simp) (by rw [zbh]; exact hce) (by decide) rfl (by rw [y06]; omega) ?_;rw [hlm, hfl];refine zdo ?_;exact zab ⟨.inr rfl, _, rfl, zfg (x :: l) rfl rfl⟩
set_option maxRecDepth 100000 in
theorem zna (l : List Int) (hne : l ≠ []) (hl : l.length <= 1000000) : PFo Tryz.prog 58 [vsI l] 1 l.length none (zC l) := by
 cases l with
 | nil => exact absurd rfl hne
 | cons x l =>
  have hce := zpv (x :: l);have hlm : ((x :: l).map fun b => ([AV.int .i64 b] : List AV)).length = (x :: l).length := y06 ..;have hfl := zbh (AV.int .i64) (x :: l);refine zeg (zf9 _) fun w0 N0 => ?_;refine zbr env0_ok fn58 [(0, vsI (x :: l))] (y04 rfl) rfl ?_;unfold ic58 vsI;refine zdo ?_;refine zdc (v := .bool false) rfl ?_ (by trivial);refine zbf ?_;refine zf1 ((x :: l).map fun b => ([AV.int .i64 b] : List AV)) rfl rfl (zd1 fun x hx => by obtain ⟨_, _, rfl⟩ := y0p.1 hx; rfl) (by simp) (by rw [zbh]; exact hce) (by decide) rfl (by rw [y06]; omega) ?_;rw [hlm, hfl];refine zdo ?_;exact zab ⟨.inr rfl, _, rfl, 1, 1, rfl, rfl⟩
-- slices.Clone[[]bool,bool]
def ic59 : IC := sR [oM 2 (.mov (.c (.nils)))]
 (.seq (sR [oT 3 0,
  oM 4 (.nilq false (.t 3))]
 (.cond (.t 4) (sR [oM 2 (.mov (.c (.nils)))]
 (.ret))
 (.skip)))
 (sR [oM 5 (.bslice 1 0 [] []),
  oT 6 0,
  oM 7 (.append 1 1 [.bool false] (.t 5) (.t 6)),
  oT 2 7]
 (.ret)))
theorem fn59 : env0.fn 59 = some ⟨8, ic59, [.t 2]⟩ := by kernel_rfl
set_option maxRecDepth 100000 in
theorem zih (l : List Bool) (hl : l.length <= 1000000) : PF Tryz.prog 59 [vsB l] (vsB l) := by
 cases l with
 | nil =>
  refine za6 env0_ok fn59 [(0, vsB [])] (y04 rfl) rfl fun w0 N0 => ?_;unfold ic59 vsB;refine zdo ?_;refine o_nilq rfl fun b => ?_;cases b with
  | true =>
   refine zbt ?_;exact uE
  | false =>
   refine zbf ?_;exact uE
 | cons x l =>
  have hce := zk0 (x :: l);have hlm : ((x :: l).map fun b => ([AV.bool b] : List AV)).length = (x :: l).length := y06 ..;have hfl := zbh (AV.bool) (x :: l);refine za6 env0_ok fn59 [(0, vsB (x :: l))] (y04 rfl) rfl fun w0 N0 => ?_;unfold ic59 vsB;refine zdo ?_;refine zdc (v := .bool false) rfl ?_ (by trivial);refine zbf ?_;refine zf1 ((x :: l).map fun b => ([AV.bool b] : List AV)) rfl rfl (zd1 fun x hx => by obtain ⟨_, _, rfl⟩ := y0p.1 hx; rfl) (by simp) (by rw [zbh]; exact hce) (by decide) rfl (by rw [y06]; omega) ?_;rw [hlm, hfl];refine zdo ?_;exact zab ⟨.inr rfl, _, rfl, zbv (x :: l) rfl rfl⟩
set_option maxRecDepth 100000 in
theorem znb (l : List Bool) (hne : l ≠ []) (hl : l.length <= 1000000) : PFo Tryz.prog 59 [vsB l] 1 l.length none (bC l) := by
 cases l with
 | nil => exact absurd rfl hne
 | cons x l =>
  have hce := zk0 (x :: l);have hlm : ((x :: l).map fun b => ([AV.bool b] : List AV)).length = (x :: l).length := y06 ..;have hfl := zbh (AV.bool) (x :: l);refine zeg (zde _) fun w0 N0 => ?_;refine zbr env0_ok fn59 [(0, vsB (x :: l))] (y04 rfl) rfl ?_;unfold ic59 vsB;refine zdo ?_;refine zdc (v := .bool false) rfl ?_ (by trivial);refine zbf ?_;refine zf1 ((x :: l).map fun b => ([AV.bool b] : List AV)) rfl rfl (zd1 fun x hx => by obtain ⟨_, _, rfl⟩ := y0p.1 hx; rfl) (by simp) (by rw [zbh]; exact hce) (by decide) rfl (by rw [y06]; omega) ?_;rw [hlm, hfl];refine zdo ?_;exact zab ⟨.inr rfl, _, rfl, 1, 1, rfl, rfl⟩
set_option maxRecDepth 100000
def ze0 (en : List Int) (inp : List Bool) : List Bool := (en.flatMap fun e => [e == 0, e == 2]) ++ inp
def zco (s : Sta) : List Bool := ze0 s.en s.inp ++ s.vals
theorem zfr (en : List Int) (inp : List Bool) : (ze0 en inp).length = 2 * en.length + inp.length := by
 unfold ze0;rw [y0o];congr 1
 induction en with
 | nil => rfl
 | cons e en ih => rw [List.flatMap_cons, y0o, ih, y1e]; simp; omega
theorem all_len {c : Ctl} {s : Sta} (h : Ct c) (hs : Ss c s) : (zco s).length = lnC c := by
 obtain ⟨k1, k2, k3, k4, k5⟩ := hs.sh;have := h.a1;unfold zco lnC fsC;rw [y0o, zfr];omega
theorem zjg {n nx ck : Nat} {l : List (Nat × AV)} {hp : List (Nat × Nat × AObj)} (q : List Bool) : (st n l hp nx ck []).elems 1 (vsB q) = some (q.map fun b => [.bool b]) :=
 zd1 fun x hx => by obtain ⟨_, _, rfl⟩ := y0p.1 hx; rfl
theorem zje (q : List Bool) : (q.map fun b => ([.bool b] : List AV)).flatten.all AV.isCell = true := by
 rw [zbh]; exact zk0 q
theorem zh2 (q : List Bool) : ∀ e ∈ (q.map fun b => ([.bool b] : List AV)), e.length = 1 := fun x hx => by obtain ⟨_, _, rfl⟩ := y0p.1 hx; rfl
def swL (en : List Int) : List Bool := en.flatMap fun e => [e == 0, e == 2]
theorem ziy (en : List Int) : (swL en).length = 2 * en.length := by
 have := zfr en [];unfold ze0 at this;rw [y0u] at this;exact this
theorem zob {en : List Int} {i : Nat} (h : i < en.length) : swL (en.take (i + 1)) = swL (en.take i) ++ [zA en i == 0, zA en i == 2] := by
 unfold swL;rw [List.take_add_one, y0e h, List.flatMap_append];have e1 : zA en i = en[i] := by unfold zA; rw [y0k, y0e h]; rfl
 rw [e1];rfl
def b60_0 : IC := sR [oM 10 (.bin .lss (.t 9) (.t 8))]
 (.seq (.cond (.t 10) (.skip)
 (.exit 0))
 (.seq (.block 1 (sR [oM 11 (.idxs 1 (.t 7) (.t 9)),
  oN 12 11,
  oT 5 12]
 (.region [oT 13 3,
  oT 14 5,
  oM 15 (.bin .eql (.t 14) (cI 0)),
  oT 16 5,
  oM 17 (.bin .eql (.t 16) (cI 2)),
  oM 18 (.bslice 1 2 [.bool false, .bool false] [(0, 1, (.t 15)), (1, 1, (.t 17))]),
  oM 19 (.append 1 1 [.bool false] (.t 13) (.t 18)),
  oT 3 19] none)))
 (.region [oM 20 (.bin .add (.t 9) (cI 1)),
  oT 9 20] none)))
-- pneumatic/control.values
def ic60 : IC := sR [oM 1 (.box (.t 0)),
  oM 2 (.mov (.c (.nils)))]
 (sR [oM 3 (.mov (.c (.nils)))]
 (.seq (sR [oF 6 0 1,
  oN 7 6,
  oM 8 (.len false (.t 7)),
  oM 9 (.mov (cI 0))]
 (.block 0 (.loop b60_0)))
 (.seq (.region [oT 21 3,
  oF 22 2 1,
  oN 23 22,
  oM 24 (.append 1 1 [.bool false] (.t 21) (.t 23)),
  oF 25 3 1,
  oN 26 25,
  oM 27 (.append 1 1 [.bool false] (.t 24) (.t 26)),
  oT 2 27] (some [[], [], [1], [0, 2], [], [4], [3, 5, 3], [6, 6, 0, 1, 2, 3, 4, 5, 6]]))
 (.ret))))
theorem fn60 : env0.fn 60 = some ⟨28, ic60, [.t 2]⟩ := by kernel_rfl
set_option maxHeartbeats 4000000 in
set_option maxRecDepth 100000 in
theorem zsv {s : Sta} (hs : Sms s) (h1 : 1 <= s.en.length) : PFo Tryz.prog 60 [.agg (cS s)] 1 (zco s).length none (bC (zco s)) := by
 have he40 := hs.e;have hi200 := hs.i;have hb200 := hs.b;have he := zev s.en;refine zeg (zde _) fun w0 N0 => ?_;refine zbr env0_ok fn60 [(0, .agg (cS s))] (y04 rfl) rfl ?_;unfold ic60;unfold cS vsI;refine zil ?_;refine zav (fun mm S => ∃ (i : Nat) (w : AV) (hp : List (Nat × Nat × AObj)) (nx ck : Nat), mm = s.en.length - i /\ i <= s.en.length /\ Gq 1 1 ((swL (s.en.take i)).map fun b => [.bool b]) w hp nx /\ Am.look 0 hp = some (0, .cells (cS s)) /\ 1 <= nx /\ S = st 28 [(1, .mptr 0 0 0), (3, w), (7, vsI s.en), (8, .int .i64 (s.en.length : Nat)), (9, .int .i64 (i : Nat))] hp nx ck) s.en.length
  (zb2 (.cons rfl (.cons rfl (.cons rfl (.cons (by rw [<- he]; rfl) (.cons rfl .nil)))))) ⟨0, .nils, _, _, _, rfl, y0q _, .inl ⟨rfl, rfl⟩, rfl, y08 _, rfl⟩ ?_
 rintro mm S ⟨i, w, hp, nx, ck, rfl, hi, hG, h0, hnx, rfl⟩;unfold b60_0 vsI;refine zhj ?_;refine za3 rfl rfl rfl (fun h3 => ?_) fun h3 => ?_
 ·have hlt : i < s.en.length := y1r.1 (of_decide_eq_true h3);have hge := zib hlt;have hsw := zob hlt;have hsl := ziy (s.en.take i);rw [List.length_take] at hsl;have w1 := za9 i (by omega);generalize zA s.en i = e at *;refine zil ?_;refine zb5 (op := .eql) (v := .bool (e == 0)) rfl rfl rfl ?_;repeat (first | refine zan rfl ?_)
  refine zb5 (op := .eql) (v := .bool (e == 2)) rfl rfl rfl ?_;repeat (first | refine zcq rfl rfl ?_)
  refine zkx [[.bool (e == 0)], [.bool (e == 2)]] (hG.fresh ck _) (zh2 _) rfl rfl (zew (xs := [[.bool (e == 0)], [.bool (e == 2)]]) (ys := []) za4 rfl fun x hx => by rcases y0d.1 hx with rfl | hx; rfl; obtain rfl := y0j.1 hx; rfl) rfl (by decide) (by omega) (by simp; omega) ?_;intro w' hp' nx' ck' hG' hnx' hk';refine zlj ?_;rw [w1];refine zad (show s.en.length - (i + 1) < s.en.length - i by omega) skp ⟨i + 1, w', hp', nx', ck', rfl, hlt, ?_, ?_, by omega, rfl⟩
  ·rw [hsw, y11]; exact hG'
  ·rw [hk' 0 (by decide), za5 (by omega)]; exact h0
 have hie : i = s.en.length := by
  have h4 : ¬ ((i : Nat) : Int) < (s.en.length : Nat) := of_decide_eq_false h3;omega
 rw [hie, y1o] at hG;have hsl := ziy s.en;refine zfj ?_;refine zbp ?_;refine zfj ?_;refine zjv 0 0 (l' := [(1, .vptr (cS s)), (3, w)]) h0 rfl (.cons rfl (.fptr rfl) (.cons rfl .same .nil)) ?_;have hG : Gq 1 1 ((swL s.en).map fun b => [.bool b]) w (zbq 0 hp) nx := hG.of (y08 _) fun j hj _ => by rw [zaa, if_neg (by omega)]
 refine zia env0_ok [] (fun _ hx => absurd hx y07) (fun _ => false) [] (fun _ hx => absurd hx y07) false (fun _ => false) (fun _ => true) (fun _ _ => rfl) (fun _ h _ => Bool.noConfusion h) rfl rfl rfl rfl ?_;refine zil ?_;refine zkx (s.inp.map fun b => [.bool b]) hG (zh2 _) rfl rfl (zjg _) (zje _) (by decide) hnx (by rw [y06, y06]; omega) ?_;intro w2 hp2 nx2 ck2 hG2 hnx2 hk2;refine zil ?_;refine zkx (s.vals.map fun b => [.bool b]) hG2 (fun e he => (y1s.1 he).elim (zh2 _ e) (zh2 _ e)) rfl rfl (zjg _) (zje _) (by decide) (by omega) (by rw [y0o, y06, y06, y06]; omega) ?_;intro w3 hp3 nx3 ck3 hG3 hnx3 hk3;refine zli ?_;rw [<- y11, <- y11] at hG3;have hG3 : Gq 1 1 ((zco s).map fun b => [.bool b]) w3 hp3 nx3 := hG3;rcases hG3 with ⟨e, _⟩ | ⟨id, sp, rfl, hl, _, _⟩
 ·have := congrArg List.length e;rw [y06] at this;have hp := zfr s.en s.inp;unfold zco at this;rw [y0o, hp] at this;exact absurd this (by simp; omega)
 ·rw [zbh] at hl;exact zab ⟨.inr rfl, _, rfl, id, sp, by rw [y06], hl⟩
theorem zgb {i : Nat} {l : List Nat} (h : i ∉ l) : zjl i l = false := by
 cases hb : zjl i l with
 | false => rfl
 | true => exact absurd (zjm.1 hb) h
theorem zj2 {P : Program} {w0 : World} {N0 : Nat} {rd : Option (Nat × Nat)} {ios : List Opr} {pres : List (List Nat)} {K : AS -> Prop} {n nn nx ck i : Nat} {D : List Nat} {l : List (Nat × AV)} {hp : List (Nat × Nat × AObj)} {d : Nat} {f : FuncId} {args : List Arg} {vs xs : List AV} {sz len : Nat} {cap : Option Nat} {cs : List AV} (hio : ios[i]? = some ⟨some d, .call (.c (.fn f [] [])) args, none⟩) (hd : zcc nn (some d) = true) (ha : zeh args l = some vs) (hv : vs.map ((st nn l hp nx ck).view VD) = xs) (hpf : PFo P f xs sz len cap cs) (hfl : flat.flatL cs = true)
  (go : AnyF P w0 N0 rd ios pres n (i :: D) (st nn ((d, .ms nx ck sz 0 len cap) :: l) ((nx, ck, .cells cs) :: hp) (nx + 1) (ck + 1)) K) : StF P w0 N0 rd ios pres n D (st nn l hp nx ck) K i := by
 refine af_ct (fv := .fn f [] []) (fun v H => v = .ms nx ck sz 0 len cap /\ H = ⟨(nx, ck, .cells cs) :: hp, nx + 1, ck + 1⟩) hio hd rfl ha (zk8 ?_) (fun v H _ m hm => absurd hm y07) fun v H ⟨e1, e2⟩ => by subst e1 e2; exact go
 refine zjw hfl ?_;rw [y29, y0u];have hvw : (⟨0, .nil, hp, nx, ck, []⟩ : AS).view VD = (st nn l hp nx ck).view VD := funext fun x => by
  have : ∀ (d : Nat) (x : AV), (⟨0, .nil, hp, nx, ck, []⟩ : AS).view d x = (st nn l hp nx ck).view d x := by
   intro d
   induction d with
   | zero => intro x; rfl
   | succ d ih =>
    intro x;have ih' : (⟨0, .nil, hp, nx, ck, []⟩ : AS).view d = (st nn l hp nx ck).view d := funext ih;cases x <;> simp only [AS.view, ih'] <;> rfl
  exact this VD x
 show PFo P f (vs.map ((⟨0, .nil, hp, nx, ck, []⟩ : AS).view VD)) sz len cap cs;rw [hvw, hv];exact hpf
def zda : List AV := [.nils, .nils, .nils, .nils, .nils]
def wvA (v : List Bool) (n s : Nat) : AV := if v = [] then vsB [] else .ms n s 1 0 v.length none
def wtA (own : Bool) (t : List Int) (n s : Nat) : AV := if own = true /\ t ≠ [] then .ms n s 1 0 t.length none else vsI t
def rgCl (m o tr : Nat) (own : Bool) (s : Sta) : Reg where
 m := m
 dst := fun j => match j with | 16 => tr | j => j + o
 qv := fun j => match j with
  | 0 => some fun _ _ => .vptr (cS s)
  | 1 => some fun _ _ => vsI s.en
  | 2 => some fun _ _ => vsI s.en
  | 3 => some fun _ _ => .vptr ((cS s).drop 1)
  | 4 => some fun _ _ => vsB s.va
  | 5 => some fun _ _ => vsB s.va
  | 6 => some fun _ _ => .vptr ((cS s).drop 2)
  | 7 => some fun _ _ => vsB s.inp
  | 8 => some fun _ _ => vsB s.inp
  | 9 => some fun _ _ => .vptr ((cS s).drop 3)
  | 10 => some fun _ _ => vsB s.vals
  | 11 => if s.vals = [] then some fun _ _ => vsB [] else none
  | 12 => some fun _ _ => .vptr ((cS s).drop 4)
  | 13 => some fun _ _ => vsI s.tms
  | 14 => if own = true /\ s.tms ≠ [] then none else some fun _ _ => vsI s.tms
  | 15 => some fun nm sm => .agg [vsI s.en, vsB s.va, vsB s.inp, wvA s.vals (nm 11) (sm 11), wtA own s.tms (nm 14) (sm 14)]
  | _ => none
 lw := fun j n q => match j with | 11 => .ms n q 1 0 s.vals.length none | 14 => .ms n q 1 0 s.tms.length none | _ => .mptr n q 0
 lc := fun j => match j with | 11 => bC s.vals | 14 => zC s.tms | _ => zda
theorem zdd {a : Nat} {v : AV} {l : List (Nat × AV)} (h : zac a l = some v) : zeh [.t a] l = some [v] := by
 unfold zeh;rw [show zas (.t a) l = some v from h]
 rfl
theorem clV {m o tr : Nat} {own : Bool} {s : Sta} {base : List (Nat × AV)} {b : Nat} {old : Nat -> Option (Nat × AObj)} {D : List Nat} {l : List (Nat × AV)} {hp : List (Nat × Nat × AObj)} {nx : Nat} {nm sm : Nat -> Nat} (hK : Kr (rgCl m o tr own s) base b old D l hp nx nm sm) (h : 11 ∈ D) : zac (11 + o) l = some (wvA s.vals (nm 11) (sm 11)) := by
 unfold wvA;by_cases hv : s.vals = []
 ·rw [if_pos hv];exact hK.q 11 _ h (if_pos hv)
 ·rw [if_neg hv];exact hK.lv 11 h (if_neg hv)
theorem clT {m o tr : Nat} {own : Bool} {s : Sta} {base : List (Nat × AV)} {b : Nat} {old : Nat -> Option (Nat × AObj)} {D : List Nat} {l : List (Nat × AV)} {hp : List (Nat × Nat × AObj)} {nx : Nat} {nm sm : Nat -> Nat} (hK : Kr (rgCl m o tr own s) base b old D l hp nx nm sm) (h : 14 ∈ D) : zac (14 + o) l = some (wtA own s.tms (nm 14) (sm 14)) := by
 unfold wtA;by_cases hv : own = true /\ s.tms ≠ []
 ·rw [if_pos hv];exact hK.lv 14 h (if_pos hv)
 ·rw [if_neg hv];exact hK.q 14 _ h (if_neg hv)
theorem zok (v : List Bool) (n s : Nat) : (wvA v n s).cells? = some [wvA v n s] := by
 unfold wvA;split <;> rfl
theorem zoj (own : Bool) (t : List Int) (n s : Nat) : (wtA own t n s).cells? = some [wtA own t n s] := by
 unfold wtA;split <;> rfl
theorem zfi (v : List Bool) (n s : Nat) : (wvA v n s).isCell = true := by
 unfold wvA;split <;> rfl
theorem zgu (own : Bool) (t : List Int) (n s : Nat) : (wtA own t n s).isCell = true := by
 unfold wtA;split <;> rfl
theorem zeo {off a : Nat} {v : AV} {ps : List (Nat × Nat × Arg)} {l r : List (Nat × AV)} (h : zac a l = some v) (hc : v.cells? = some [v]) (hr : zen ps l = some r) : zen ((off, 1, .t a) :: ps) l = some ((off, v) :: r) := by
 unfold zen;rw [show zas (.t a) l = some v from h, hr]
 dsimp only;rw [hc];rfl
theorem zo2 {a b c d e : Nat} {va vb vc vd ve : AV} {l : List (Nat × AV)} (ha : zac a l = some va) (hb : zac b l = some vb) (hc : zac c l = some vc) (hd : zac d l = some vd) (he : zac e l = some ve) (ca : va.cells? = some [va] := by rfl) (cb : vb.cells? = some [vb] := by rfl) (cc : vc.cells? = some [vc] := by rfl) (cd : vd.cells? = some [vd] := by exact zok _ _ _) (ce : ve.cells? = some [ve] := by exact zoj _ _ _ _) :
  zen [(0, 1, (.t a)), (1, 1, (.t b)), (2, 1, (.t c)), (3, 1, (.t d)), (4, 1, (.t e))] l = some [(0, va), (1, vb), (2, vc), (3, vd), (4, ve)] :=
 zeo ha ca (zeo hb cb (zeo hc cc (zeo hd cd (zeo he ce rfl))))
theorem fill5 {va vb vc vd ve : AV} (ca : va.cells? = some [va]) (cb : vb.cells? = some [vb]) (cc : vc.cells? = some [vc]) (cd : vd.cells? = some [vd]) (ce : ve.cells? = some [ve]) : zbi zda [(0, va), (1, vb), (2, vc), (3, vd), (4, ve)] = some [va, vb, vc, vd, ve] := by
 unfold zda;simp only [zbi, ca, cb, cc, cd, ce];rfl
def ios31 : List Opr := [oF 11 0 3, oN 12 11, oM 13 (.call (.c (.fn 58 [] [])) [(.t 12)]), oF 14 1 3, oN 15 14, oM 16 (.call (.c (.fn 59 [] [])) [(.t 15)]), oF 17 2 3, oN 18 17, oM 19 (.call (.c (.fn 59 [] [])) [(.t 18)]), oF 20 3 3, oN 21 20, oM 22 (.call (.c (.fn 59 [] [])) [(.t 21)]), oF 23 4 3, oN 24 23, oM 25 (.call (.c (.fn 58 [] [])) [(.t 24)]), oM 26 (.build [.nils, .nils, .nils, .nils, .nils] [(0, 1, (.t 13)), (1, 1, (.t 16)), (2, 1, (.t 19)), (3, 1, (.t 22)), (4, 1, (.t 25))]), oM 5 (.alloc [.nils, .nils, .nils, .nils, .nils]), ⟨none, .store 5 (.t 5) (.t 26), none⟩]
def pres31 : List (List Nat) := [[], [0], [1], [], [3], [4, 2], [], [6], [7, 5], [], [9], [10, 8], [], [12], [13, 11], [2, 5, 8, 11, 14], [], [16, 15, 14, 0, 1, 2, 3, 4, 5, 6, 7, 8, 9, 10, 11, 12, 13, 14, 15, 16]]
def zh4 (s : Sta) (v : AV) (t : AV) : List AV := [vsI s.en, vsB s.va, vsB s.inp, v, t]
def zrv (s : Sta) : List (Nat × Nat × AObj) := (0, 0, .cells zda) :: (1, 0, .cells (zh4 s (wvA s.vals 2 0) (vsI s.tms))) :: (if s.vals = [] then [] else [(2, 0, .cells (bC s.vals))])
def zs6 (s : Sta) : Nat := if s.vals = [] then 2 else 3
theorem zhk : ∀ l : List Bool, hasM.hasML (bC l) = false
 | [] => rfl
 | _ :: l => by
  show (false || hasM.hasML (bC l)) = false;rw [zhk l];rfl
set_option maxHeartbeats 4000000 in
set_option maxRecDepth 100000 in
theorem reg31 {w0 : World} {N0 : Nat} {c : Ctl} {s : Sta} (hs : Sms s) {y : IC} {k : List Fr} {Q : Exit -> AS -> Prop}
  (go : Zm Tryz.prog w0 N0 none y (st 61 [(2, .vptr (cC c)), (3, .vptr (cS s)), (4, .mptr 0 0 0), (5, .mptr 1 0 0)] (zrv s) (zs6 s) 1) k Q) :
  Zm Tryz.prog w0 N0 none (.region ios31 (some pres31)) (st 61 [(2, .vptr (cC c)), (3, .vptr (cS s)), (4, .mptr 0 0 0)] [(0, 0, .cells zda)] 1 1) (.seq y :: k) Q := by
 refine z_any2 env0_ok.mix (fun rd K0 hK0 => ?_) go;refine zn3 (rgCl 17 11 5 false s) [(3, .vptr (cS s)), (2, .vptr (cC c)), (4, .mptr 0 0 0)] (fun j S => ∃ l hp nx ck n5 s5 n11 s11, S = st 61 l hp nx ck /\ zac 3 l = some (.vptr (cS s)) /\ zac 2 l = some (.vptr (cC c)) /\ zac 4 l = some (.mptr 0 0 0) /\ zac 5 l = some (.mptr n5 s5 0) /\ Am.look 0 hp = some (0, .cells zda) /\ n5 ≠ 0 /\ (j = 17 -> Am.look n5 hp = some (s5, .cells zda) /\ zac 26 l = some (.agg (zh4 s (wvA s.vals n11 s11) (vsI s.tms)))) /\ (j = 18 -> Am.look n5 hp = some (s5, .cells (zh4 s (wvA s.vals n11 s11) (vsI s.tms)))) /\ (s.vals ≠ [] -> Am.look n11 hp = some (s11, .cells (bC s.vals)) /\ n11 ≠ 0 /\ n11 ≠ n5)) 18 rfl rfl ?_ ?_ ?_ ?_ ?_ ?_
 ·intro t v ht;rcases y0d.1 ht with e | ht
  ·cases e; rfl
  ·rcases y0d.1 ht with e | ht
   ·cases e; rfl
   ·cases y0j.1 ht; rfl
 ·intro j f e nm sm nm' sm' hp;unfold rgCl at e;dsimp only at e;split at e;all_goals first
   | (cases e; rfl)
   | (cases e; done)
   | (
     split at e
     ·cases e; try rfl
     ·cases e; try rfl)
   | (
     cases e;have a := hp 11 (by decide);have b := hp 14 (by decide);show AV.agg [vsI s.en, vsB s.va, vsB s.inp, wvA s.vals (nm 11) (sm 11), wtA _ s.tms (nm 14) (sm 14)] = AV.agg [vsI s.en, vsB s.va, vsB s.inp, wvA s.vals (nm' 11) (sm' 11), wtA _ s.tms (nm' 14) (sm' 14)];rw [a.1, a.2, b.1, b.2])
 ·intro j hj n1 D l hp' nx ck nm sm hK hp;have hj : j < 17 := hj
  match j, hj with
   | 0, _ => exact fun go => za7 rfl rfl (ze9 (hK.bs 3 _ (y01 ..)) rfl rfl) go
   | 1, _ => exact fun go => za7 rfl rfl (zg9 (hK.q 0 _ (hp 0 (y01 ..)) rfl) rfl) go
   | 2, _ => exact fun go => ze3 rfl rfl (zdd (hK.q 1 _ (hp 1 (y01 ..)) rfl)) rfl (zn9 s.en (by have := hs.e; omega)) noC (fun m hm => absurd hm y07) go
   | 3, _ => exact fun go => za7 rfl rfl (ze9 (hK.bs 3 _ (y01 ..)) rfl rfl) go
   | 4, _ => exact fun go => za7 rfl rfl (zg9 (hK.q 3 _ (hp 3 (y01 ..)) rfl) rfl) go
   | 5, _ => exact fun go => ze3 rfl rfl (zdd (hK.q 4 _ (hp 4 (y01 ..)) rfl)) rfl (zih s.va (by have := hs.v; omega)) noC (fun m hm => absurd hm y07) go
   | 6, _ => exact fun go => za7 rfl rfl (ze9 (hK.bs 3 _ (y01 ..)) rfl rfl) go
   | 7, _ => exact fun go => za7 rfl rfl (zg9 (hK.q 6 _ (hp 6 (y01 ..)) rfl) rfl) go
   | 8, _ => exact fun go => ze3 rfl rfl (zdd (hK.q 7 _ (hp 7 (y01 ..)) rfl)) rfl (zih s.inp (by have := hs.i; omega)) noC (fun m hm => absurd hm y07) go
   | 9, _ => exact fun go => za7 rfl rfl (ze9 (hK.bs 3 _ (y01 ..)) rfl rfl) go
   | 10, _ => exact fun go => za7 rfl rfl (zg9 (hK.q 9 _ (hp 9 (y01 ..)) rfl) rfl) go
   | 11, _ =>
    by_cases hv : s.vals = []
    ·rw [show (rgCl 17 11 5 false s).qv 11 = some (fun _ _ => vsB []) from if_pos hv]
     exact fun go => ze3 rfl rfl (zdd (hK.q 10 _ (hp 10 (y01 ..)) rfl)) rfl (by have := zih s.vals (by have := hs.b; omega); rw [hv] at this ⊢; exact this) noC (fun m hm => absurd hm y07) go
    ·rw [show (rgCl 17 11 5 false s).qv 11 = none from if_neg hv]
     exact fun go => zj2 rfl rfl (zdd (hK.q 10 _ (hp 10 (y01 ..)) rfl)) rfl (znb s.vals hv (by have := hs.b; omega)) (zde _) go
   | 12, _ => exact fun go => za7 rfl rfl (ze9 (hK.bs 3 _ (y01 ..)) rfl rfl) go
   | 13, _ => exact fun go => za7 rfl rfl (zg9 (hK.q 12 _ (hp 12 (y01 ..)) rfl) rfl) go
   | 14, _ =>
    by_cases hv : false = true /\ s.tms ≠ []
    ·rw [show (rgCl 17 11 5 false s).qv 14 = none from if_pos (e := (some fun _ _ => vsI s.tms : Option ((Nat -> Nat) -> (Nat -> Nat) -> AV))) hv]
     exact fun go => zj2 rfl rfl (zdd (hK.q 13 _ (hp 13 (y01 ..)) rfl)) rfl (zna s.tms hv.2 (by have := hs.t; omega)) (zf9 _) go
    ·rw [show (rgCl 17 11 5 false s).qv 14 = some (fun _ _ => vsI s.tms) from if_neg (t := (none : Option ((Nat -> Nat) -> (Nat -> Nat) -> AV))) hv]
     exact fun go => ze3 rfl rfl (zdd (hK.q 13 _ (hp 13 (y01 ..)) rfl)) rfl (zn9 s.tms (by have := hs.t; omega)) noC (fun m hm => absurd hm y07) go
   | 15, _ => exact fun go => za7 rfl rfl (zh6 (zo2 (hK.q 2 _ (hp 2 (y01 ..)) rfl) (hK.q 5 _ (hp 5 (me 1 rfl)) rfl) (hK.q 8 _ (hp 8 (me 2 rfl)) rfl) (clV hK (hp 11 (me 3 rfl))) (clT hK (hp 14 (me 4 rfl)))) (fill5 rfl rfl rfl (zok _ _ _) (zoj _ _ _ _))) go
   | 16, _ => exact fun go => za7 rfl rfl zh5 go
   | j + 17, h => exact absurd h (by omega)
 ·intro l hp nx ck nm sm hK;have m : ∀ j, j < 17 -> j ∈ List.range 17 := fun j hj => y0n.2 hj;have h16 := hK.lh 16 (m 16 (by decide)) rfl;refine ⟨l, hp, nx, ck, nm 16, sm 16, nm 11, sm 11, rfl, hK.bs 3 _ (y01 ..), hK.bs 2 _ (me 1 rfl), hK.bs 4 _ (me 2 rfl), hK.lv 16 (m 16 (by decide)) rfl, hK.ol 0 (by decide), by have := h16.2.1; omega, fun _ => ⟨h16.1, ?_⟩, fun h => absurd h (by show ¬ 17 = 18; decide), fun hv => ?_⟩
  ·have := hK.q 15 _ (m 15 (by decide)) rfl;unfold wtA at this;rw [if_neg (by simp)] at this;exact this
  ·have hn : (rgCl 17 11 5 false s).qv 11 = none := if_neg hv;have h11 := hK.lh 11 (m 11 (by decide)) hn;exact ⟨h11.1, by have := h11.2.1; omega, fun e => absurd (hK.ij 11 16 (m 11 (by decide)) (m 16 (by decide)) hn rfl e) (by decide)⟩
 ·rintro j h1 h2 S ⟨l, hp, nx, ck, n5, s5, n11, s11, rfl, a3, a2, a4, a5, k0, e0, k5, _, k11⟩ n1 D go;have h1 : 17 <= j := h1;obtain rfl : j = 17 := by omega
  obtain ⟨k5, q5⟩ := k5 rfl;refine zg4 rfl (ze4 a5 q5 rfl rfl k5 rfl ?_) (go _ ⟨l, _, _, _, n5, s5, n11, s11, rfl, a3, a2, a4, a5, ?_, e0, fun h => absurd h (by decide), fun _ => ?_, fun hv => ⟨?_, (k11 hv).2⟩⟩)
  ·show ([vsI s.en, vsB s.va, vsB s.inp, wvA s.vals n11 s11, vsI s.tms] : List AV).all AV.isCell = true;simp only [y1h, y2h, zfi];rfl
  ·rw [za0, if_neg e0]; exact k0
  ·rw [za0, if_pos rfl]; rfl
  ·rw [za0, if_neg (fun e => (k11 hv).2.2 e.symm)]; exact (k11 hv).1
 ·rintro S ⟨l, hp, nx, ck, n5, s5, n11, s11, rfl, a3, a2, a4, a5, k0, e0, _, k5, k11⟩;have k5 := k5 rfl;refine hK0 _ ?_;unfold zrv zs6;by_cases hv : s.vals = []
  ·rw [if_pos hv, if_pos hv];unfold wvA zh4 at *;rw [if_pos hv] at k5 ⊢;refine zgt [(some (0, 0), zda), (some (n5, s5), [vsI s.en, vsB s.va, vsB s.inp, vsB [], vsI s.tms])] [] rfl rfl ?_ .nil (.cons k0 (.keep rfl) (.cons k5 (.keep rfl) .nil)) (.cons a2 (.same rfl) (.cons a3 (.same rfl) (.cons a4 (.mptr rfl) (.cons a5 (.mptr rfl) .nil))));show (!zjl 0 [] && (!zjl n5 [0] && true)) = true;rw [show zjl n5 [0] = false from zgb fun h => e0 (y0j.1 h)]
   rfl
  ·rw [if_neg hv, if_neg hv];obtain ⟨k11, e11, e12⟩ := k11 hv;unfold wvA zh4 at *;rw [if_neg hv] at k5 ⊢;refine zgt [(some (0, 0), zda), (some (n5, s5), [vsI s.en, vsB s.va, vsB s.inp, .ms 2 0 1 0 s.vals.length none, vsI s.tms]), (some (n11, s11), bC s.vals)] [] rfl rfl ?_ .nil (.cons k0 (.keep rfl) (.cons k5 (.cons (.same rfl) (.cons (.same rfl) (.cons (.same rfl) (.cons (.ms rfl) (.cons (.same rfl) .nil))))) (.cons k11 (.keep (zhk _)) .nil))) (.cons a2 (.same rfl) (.cons a3 (.same rfl) (.cons a4 (.mptr rfl) (.cons a5 (.mptr rfl) .nil))));show (!zjl 0 [] && (!zjl n5 [0] && (!zjl n11 [n5, 0] && true))) = true;rw [show zjl n5 [0] = false from zgb fun h => e0 (y0j.1 h), show zjl n11 [n5, 0] = false from zgb fun h => (y0d.1 h).elim e12 fun h => e11 (y0j.1 h)]
   rfl
set_option maxRecDepth 100000
def gat (pre : List Bool) (sg : List Sig) (v : List Bool) : Nat -> List Bool
 | 0 => v
 | k + 1 => if (sgA sg k).kd = 0 then (gat pre sg v k).set k (zae (pre ++ gat pre sg v k) (sgA sg k).on) else gat pre sg v k
theorem zds (pre : List Bool) (sg : List Sig) (v : List Bool) : ∀ k, (gat pre sg v k).length = v.length
 | 0 => rfl
 | k + 1 => by
  rw [gat];split
  ·rw [y1t, zds pre sg v k]
  ·exact zds pre sg v k
def zeb (c : Ctl) (s : Sta) : List Bool := gat (ze0 s.en s.inp) c.sg s.vals c.sg.length
def zay (c : Ctl) (s : Sta) : Sta := ⟨s.en, s.va, s.inp, zeb c s, s.tms⟩
theorem zj4 (v : List Bool) (i : Nat) (b : Bool) : (bC v).set i (.bool b) = bC (v.set i b) := by
 unfold bC;rw [List.map_set]
theorem zdf (v : List Bool) : (bC v).length = v.length := y06 ..
theorem zvz {x : Ex} {v : List Bool} {n : Nat} (h : zcg x n = 0) (hl : v.length = n) : evalV x v = .tup [.bool (zae v x), .int .i64 0] := by
 unfold evalV;rw [hl, if_pos h]
theorem zi7 {S : AS} {d : Nat} {s : Sta} {wv wt : AV} (hv : ∀ d, S.view (d + 1) wv = vsB s.vals) (ht : ∀ d, S.view (d + 1) wt = vsI s.tms) : S.view (d + 2) (.agg [vsI s.en, vsB s.va, vsB s.inp, wv, wt]) = .agg (cS s) := by
 rw [AS.view];simp only [y1a, List.map_nil, hv, ht];rfl
def b31_0 : IC := sR [oM 33 (.bin .lss (.t 32) (.t 31))]
 (.seq (.cond (.t 33) (.skip)
 (.exit 0))
 (.seq (.block 1 (sR [oT 34 32,
  oM 35 (.idxs 10 (.t 30) (.t 32)),
  oL 36 10 35,
  oM 8 (.alloc [.str [], .int .i64 0, .int .i64 0, .int .i64 0, .nils, .int .i64 0, .int .i64 0, .nils, .int .i64 0, .bool false]),
  oT 7 34,
  ⟨none, .store 10 (.t 8) (.t 36), none⟩]
 (sR [oF 37 1 8,
  oN 38 37,
  oM 39 (.bin .eql (.t 38) (cI 0))]
 (.cond (.t 39) (sR [oF 41 2 8,
  oL 42 3 41,
  oT 43 6,
  oM 44 (.call (.c (.fn 61 [] [])) [(.t 42), (.t 43)]),
  oT 40 44,
  oM 45 (.extract (.t 40) 0),
  oM 46 (.extract (.t 40) 1),
  oT 9 45,
  oT 10 46]
 (.region [oF 47 3 5,
  oN 48 47,
  oT 49 7,
  oT 50 6,
  oL 51 5 2,
  oM 52 (.call (.c (.fn 47 [] [])) [(.t 51)]),
  oT 53 7,
  oM 54 (.bin .add (.t 52) (.t 53)),
  oT 55 9,
  oT 56 9,
  oM 57 (.idxs 1 (.t 48) (.t 49)),
  ⟨none, .store 1 (.t 57) (.t 55), none⟩,
  oM 58 (.idxs 1 (.t 50) (.t 54)),
  ⟨none, .store 1 (.t 58) (.t 56), none⟩] (some [[], [0], [], [], [], [4], [], [5, 6], [], [], [1, 2, 0, 1, 2, 5, 8], [10, 8, 5, 0, 1, 2, 5, 8], [3, 7, 0, 1, 2, 3, 4, 5, 6, 7, 8, 9, 10, 11], [12, 9, 11, 0, 1, 2, 3, 4, 5, 6, 7, 8, 9, 10, 11]])))
 (.skip)))))
 (.region [oM 59 (.bin .add (.t 32) (cI 1)),
  oT 32 59] none)))
-- pneumatic/control.gates
def ic31 : IC := sR [oM 2 (.box (.t 0)),
  oM 3 (.box (.t 1)),
  oM 4 (.alloc [.nils, .nils, .nils, .nils, .nils])]
 (.seq (.region [oF 11 0 3,
  oN 12 11,
  oM 13 (.call (.c (.fn 58 [] [])) [(.t 12)]),
  oF 14 1 3,
  oN 15 14,
  oM 16 (.call (.c (.fn 59 [] [])) [(.t 15)]),
  oF 17 2 3,
  oN 18 17,
  oM 19 (.call (.c (.fn 59 [] [])) [(.t 18)]),
  oF 20 3 3,
  oN 21 20,
  oM 22 (.call (.c (.fn 59 [] [])) [(.t 21)]),
  oF 23 4 3,
  oN 24 23,
  oM 25 (.call (.c (.fn 58 [] [])) [(.t 24)]),
  oM 26 (.build [.nils, .nils, .nils, .nils, .nils] [(0, 1, (.t 13)), (1, 1, (.t 16)), (2, 1, (.t 19)), (3, 1, (.t 22)), (4, 1, (.t 25))]),
  oM 5 (.alloc [.nils, .nils, .nils, .nils, .nils]),
  ⟨none, .store 5 (.t 5) (.t 26), none⟩] (some [[], [0], [1], [], [3], [4, 2], [], [6], [7, 5], [], [9], [10, 8], [], [12], [13, 11], [2, 5, 8, 11, 14], [], [16, 15, 14, 0, 1, 2, 3, 4, 5, 6, 7, 8, 9, 10, 11, 12, 13, 14, 15, 16]]))
 (sR [oL 27 5 5,
  oM 28 (.call (.c (.fn 60 [] [])) [(.t 27)]),
  oT 6 28]
 (.seq (sR [oF 29 2 2,
  oN 30 29,
  oM 31 (.len false (.t 30)),
  oM 32 (.mov (cI 0))]
 (.block 0 (.loop b31_0)))
 (sR [oL 60 5 5,
  ⟨none, .store 5 (.t 4) (.t 60), none⟩]
 (.ret)))))
theorem fn31 : env0.fn 31 = some ⟨61, ic31, [.cell 4 (some 5)]⟩ := by kernel_rfl
theorem zwn {pre v : List Bool} {i : Nat} {b : Bool} : (pre ++ v).set (pre.length + i) b = pre ++ v.set i b := by
 rw [List.set_append_right _ _ (Nat.le_add_right _ _), Nat.add_sub_cancel_left]
set_option maxHeartbeats 8000000 in
set_option maxRecDepth 100000 in
theorem gates31 {c : Ctl} {s : Sta} (h : Ct c) (hs : Ss c s) : PF Tryz.prog 31 [.agg (cC c), .agg (cS s)] (.agg (cS (zay c s))) := by
 have hg := ze7 c.sg;have p47 := znk h.toSm;obtain ⟨k1, k2, k3, k4, k5⟩ := hs.sh;have a1 := h.a1;have a6 := h.a6;have s16 := h.s16;have i16 := h.i16;have hpl := zfr s.en s.inp;have hfs : fsC c = (ze0 s.en s.inp).length := by rw [hpl]; unfold fsC; omega
 have hfs100 : fsC c <= 100 := by unfold fsC; omega
 have p60 := zsv hs.toSms (by omega);have hal : zco s = ze0 s.en s.inp ++ s.vals := rfl;refine za6 env0_ok fn31 [(0, .agg (cC c)), (1, .agg (cS s))] (y04 rfl) rfl fun w0 N0 => ?_;unfold ic31;refine zsr rfl (zcs rfl rfl (zcs rfl rfl (zc1 (onu ?_))));refine zck [(some (2, 2), zda)] [(0, 0, cC c), (1, 1, cS s)] [(2, .vptr (cC c)), (3, .vptr (cS s)), (4, .mptr 0 0 0)] rfl (.cons rfl rfl (.cons rfl rfl .nil)) (.cons rfl (.keep rfl) .nil) (.cons rfl (.fptr rfl rfl) (.cons rfl (.fptr rfl rfl) (.cons rfl (.mptr rfl) .nil))) ?_;refine zb3 (reg31 hs.toSms ?_);by_cases hv : s.vals = []
 ·have hn0 : c.sg.length = 0 := by rw [<- k4, hv]; rfl
  have hgv : zay c s = s := by
   unfold zay zeb;rw [hn0];rfl
  rw [hgv];unfold zrv zs6 wvA;rw [if_pos hv, if_pos hv, if_pos hv];have hcs : [vsI s.en, vsB s.va, vsB s.inp, vsB [], vsI s.tms] = cS s := by unfold cS; rw [hv]
  unfold zh4;rw [hcs];refine zck [(some (0, 0), zda)] [(1, 0, cS s)] [(2, .vptr (cC c)), (4, .mptr 0 0 0), (5, .vptr (cS s))] rfl (.cons rfl rfl .nil) (.cons rfl (.keep rfl) .nil) (.cons rfl (.same rfl) (.cons rfl (.mptr rfl) (.cons rfl (.fptr rfl rfl) .nil))) ?_;unfold cC vsG at *;unfold cS at *;refine zlj ?_;refine zwi rfl rfl p60 (zde _) ?_;refine zil ?_;rw [hg, hn0];refine zav (fun mm S => S = st 61 [(4, .mptr 0 0 0), (5, .vptr (cS s)), (31, .int .i64 ((0 : Nat) : Int)), (32, .int .i64 0)] [(1, 1, .cells (bC (zco s))), (0, 0, .cells zda)] 2 2) 0 skp rfl ?_;rintro mm S rfl;unfold b31_0 cS;refine zfj ?_;refine zbp ?_;refine zfj ?_;exact uE
 ·unfold zrv zs6 wvA;rw [if_neg hv, if_neg hv, if_neg hv];unfold zh4;have hn1 : 0 < s.vals.length := List.length_pos_iff.2 hv;refine zsr rfl ?_;repeat (first | refine zb6 rfl rfl rfl rfl ?_)
  refine zwi rfl (congrArg (fun x => [x]) (zi7 (S := st _ _ _ _ _) (d := VD - 2) (s := s) (wv := .ms 2 0 1 0 s.vals.length none) (wt := vsI s.tms) (fun d => zbv s.vals rfl rfl) (fun d => rfl))) p60 (zde _) ?_;refine zil ?_;refine zck [(some (0, 0), zda), (some (1, 0), [vsI s.en, vsB s.va, vsB s.inp, .ms 2 0 1 0 s.vals.length none, vsI s.tms]), (some (2, 0), bC s.vals), (some (3, 1), bC (zco s))] [] [(2, .vptr (cC c)), (4, .mptr 0 0 0), (5, .mptr 1 0 0), (6, .ms 3 0 1 0 (zco s).length none), (30, vsG c.sg), (31, .int .i64 (c.sg.length : Nat)), (32, .int .i64 0)] rfl .nil (.cons rfl (.keep rfl) (.cons rfl (.cons (.same rfl) (.cons (.same rfl) (.cons (.same rfl) (.cons (.ms rfl) (.cons (.same rfl) .nil))))) (.cons rfl (.keep (zhk _)) (.cons rfl (.keep (zhk _)) .nil)))) (.cons rfl (.same rfl) (.cons rfl (.mptr rfl) (.cons rfl (.mptr rfl) (.cons rfl (.ms rfl) (.cons rfl (.same rfl) (.cons (by rw [<- hg]; rfl) (.same rfl) (.cons rfl (.same rfl) .nil))))))) ?_;rw [hal];have hgv : (zay c s).vals = gat (ze0 s.en s.inp) c.sg s.vals c.sg.length := rfl;generalize ze0 s.en s.inp = pre at *;have hall : (pre ++ s.vals).length = lnC c := by rw [y0o, <- hfs, k4]; rfl
  refine zav (fun mm S => ∃ i, mm = c.sg.length - i /\ i <= c.sg.length /\ S = st 61 [(2, .vptr (cC c)), (4, .mptr 0 0 0), (5, .mptr 1 0 0), (6, .ms 3 0 1 0 (lnC c) none), (30, vsG c.sg), (31, .int .i64 (c.sg.length : Nat)), (32, .int .i64 (i : Nat))] [(0, 0, .cells zda), (1, 0, .cells [vsI s.en, vsB s.va, vsB s.inp, .ms 2 0 1 0 s.vals.length none, vsI s.tms]), (2, 0, .cells (bC (gat pre c.sg s.vals i))), (3, 0, .cells (bC (pre ++ gat pre c.sg s.vals i)))] 4 1) c.sg.length
   (zb2 (.cons rfl (.cons rfl (.cons rfl (.cons (by rw [<- hall]; rfl) (.cons rfl (.cons rfl (.cons rfl .nil)))))))) ⟨0, rfl, y0q _, rfl⟩ ?_
  rintro mm S ⟨i, rfl, hi, rfl⟩;unfold b31_0 vsG;refine zhj ?_;refine za3 rfl rfl rfl (fun h3 => ?_) fun h3 => ?_
  ·have hlt : i < c.sg.length := y1r.1 (of_decide_eq_true h3);have hge := zdn hlt;have hon := h.on i hlt;have hsl := (h.x1 _ (zi0 hlt)).1;have hgs : gat pre c.sg s.vals (i + 1) = if (sgA c.sg i).kd = 0 then (gat pre c.sg s.vals i).set i (zae (pre ++ gat pre c.sg s.vals i) (sgA c.sg i).on) else gat pre c.sg s.vals i := rfl
   have hgl := zds pre c.sg s.vals i;have w1 := za9 i (by omega);have w2 : IntKind.wrap .i64 (((fsC c : Nat) : Int) + (i : Nat)) = ((fsC c + i : Nat) : Int) := by rw [zbe _ (by omega) (by omega)]; omega
   generalize gat pre c.sg s.vals i = v at *;generalize sgA c.sg i = x at *;have hvl : (pre ++ v).length = lnC c := by rw [y0o, hgl, <- hfs, k4]; rfl
   have pev := eval81 x.on hsl (pre ++ v);rw [zvz hon hvl, zif] at pev;refine zji ?_;refine za3 rfl rfl rfl (fun h4 => ?_) fun h4 => ?_
   ·have h4 : x.kd = 0 := by simpa using h4
    rw [if_pos h4] at hgs;refine zlj ?_;refine zak rfl (by show [_, AS.view _ VD (.ms 3 0 1 0 (lnC c) none)] = _; rw [show VD = (VD - 1) + 1 from rfl, zbv (pre ++ v) hvl rfl]; rfl) pev (fun _ => rfl) ?_
    refine zgw ?_;refine zc2 env0_ok _ (hL1 p47) (fun g => Nat.beq g 47) rfl rfl rfl ?_;unfold cC at p47 ⊢;refine zgw ?_;have ez : ∀ o : Nat, 0 + ((o : Nat) : Int).toNat * 1 = o := fun o => by simp
    rw [ez, w2];refine zcv (id := 2) (sp := 0) (off := i) (cs := bC v) rfl rfl rfl rfl (by rw [zdf]; omega) rfl ?_;rw [zj4];refine zgd rfl rfl (y0z _) (by unfold lnC; omega) ?_;rw [ez];refine zcv (id := 3) (sp := 0) (off := fsC c + i) (cs := bC (pre ++ v)) rfl rfl rfl rfl (by rw [zdf]; unfold lnC at hvl; omega) rfl ?_;rw [zj4, hfs, zwn, <- hgs];refine zlj ?_;rw [w1];refine zad (show c.sg.length - (i + 1) < c.sg.length - i by omega) (zgt [(some (0, 0), zda), (some (1, 0), [vsI s.en, vsB s.va, vsB s.inp, .ms 2 0 1 0 s.vals.length none, vsI s.tms]), (some (2, 0), bC (gat pre c.sg s.vals (i + 1))), (some (3, 0), bC (pre ++ gat pre c.sg s.vals (i + 1)))] [] rfl rfl rfl .nil (.cons rfl (.keep rfl) (.cons rfl (.cons (.same rfl) (.cons (.same rfl) (.cons (.same rfl) (.cons (.ms rfl) (.cons (.same rfl) .nil))))) (.cons rfl (.keep (zhk _)) (.cons rfl (.keep (zhk _)) .nil)))) (.cons rfl (.same rfl) (.cons rfl (.mptr rfl) (.cons rfl (.mptr rfl) (.cons rfl (.ms rfl) (.cons rfl (.same rfl) (.cons rfl (.same rfl) (.cons rfl (.same rfl) .nil)))))))) ⟨i + 1, rfl, hlt, rfl⟩
   ·have h4 : ¬ x.kd = 0 := by simpa using h4
    rw [if_neg h4] at hgs;refine zlj ?_;rw [w1];rw [<- hgs];exact zad (show c.sg.length - (i + 1) < c.sg.length - i by omega) (zgt [(some (0, 0), zda), (some (1, 0), [vsI s.en, vsB s.va, vsB s.inp, .ms 2 0 1 0 s.vals.length none, vsI s.tms]), (some (2, 0), bC (gat pre c.sg s.vals (i + 1))), (some (3, 0), bC (pre ++ gat pre c.sg s.vals (i + 1)))] [] rfl rfl rfl .nil (.cons rfl (.keep rfl) (.cons rfl (.cons (.same rfl) (.cons (.same rfl) (.cons (.same rfl) (.cons (.ms rfl) (.cons (.same rfl) .nil))))) (.cons rfl (.keep (zhk _)) (.cons rfl (.keep (zhk _)) .nil)))) (.cons rfl (.same rfl) (.cons rfl (.mptr rfl) (.cons rfl (.mptr rfl) (.cons rfl (.ms rfl) (.cons rfl (.same rfl) (.cons rfl (.same rfl) (.cons rfl (.same rfl) .nil)))))))) ⟨i + 1, rfl, hlt, rfl⟩
  ·have hie : i = c.sg.length := by
    have h4 : ¬ ((i : Nat) : Int) < (c.sg.length : Nat) := of_decide_eq_false h3;omega
   subst hie;refine zfj ?_;refine zbp ?_;refine zfj ?_;refine zab ⟨.inr rfl, _, rfl, ?_⟩;have hgl := zds pre c.sg s.vals c.sg.length;exact zi7 (d := VD - 2) (s := zay c s) (wv := .ms 2 0 1 0 s.vals.length none) (wt := vsI s.tms) (fun d => by rw [hgv]; exact zbv _ hgl rfl) (fun d => rfl)
-- pneumatic/control.Gates
def ic15 : IC := sR [oM 2 (.box (.t 0)),
  oM 3 (.box (.t 1)),
  oM 4 (.alloc [.nils, .nils, .nils, .nils, .nils]),
  oM 5 (.mov (cI 0))]
 (.seq (sR [oL 7 5 2,
  oL 8 5 3,
  oM 9 (.call (.c (.fn 30 [] [])) [(.t 7), (.t 8)]),
  oT 6 9]
 (sR [oT 10 6,
  oM 11 (.bin .neq (.t 10) (cI 0))]
 (.cond (.t 11) (sR [oM 12 (.build [.nils, .nils, .nils, .nils, .nils] []),
  oT 13 6,
  ⟨none, .store 5 (.t 4) (.t 12), none⟩,
  oT 5 13]
 (.ret))
 (.skip))))
 (sR [oL 14 5 2,
  oL 15 5 3,
  oM 16 (.call (.c (.fn 31 [] [])) [(.t 14), (.t 15)]),
  ⟨none, .store 5 (.t 4) (.t 16), none⟩,
  oM 5 (.mov (cI 0))]
 (.ret)))
theorem fn15 : env0.fn 15 = some ⟨17, ic15, [.cell 4 (some 5), .t 5]⟩ := by kernel_rfl
set_option maxRecDepth 100000 in
theorem zno {c : Ctl} {s : Sta} (h : Ct c) (hs : Ss c s) : PF Tryz.prog 15 [.agg (cC c), .agg (cS s)] (.tup [.agg (cS (zay c s)), .int .i64 0]) := by
 have p30 := zqv h hs;have p31 := gates31 h hs;refine za6 env0_ok fn15 [(0, .agg (cC c)), (1, .agg (cS s))] (y04 rfl) rfl fun w0 N0 => ?_;unfold ic15;generalize zay c s = t at *;unfold cC cS at *;refine zfj ?_;exact uE
end Go.Proofs.YtdolbghhcijonaaGreat
