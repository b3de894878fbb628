/-
  R1, R2, R3, R4, R5, R6, R7, R8, R9 in one text.
-/
import Derived.Test.YtdolbghhcijonaaGreatNX1
namespace Go.Proofs.YtdolbghhcijonaaGreat
open Go Go.Am
set_option maxRecDepth 100000
def zug : IC := sR [oM 18 (.bin .lss (.t 17) (.t 16))]
 (.seq (.cond (.t 18) (.skip)
 (.exit 0))
 (.seq (.block 1 (sR [oM 19 (.idxs 3 (.t 15) (.t 17)),
  oL 20 3 19,
  oM 8 (.alloc [.int .i64 0, .int .i64 0, .nils]),
  ⟨none, .store 3 (.t 8) (.t 20), none⟩]
 (sR [oT 21 1,
  oM 22 (.bin .leq (.t 21) (cI 16)),
  oT 23 22,
  ⟨(some 24), .load none (.t 3), some (23, true)⟩,
  ⟨(some 25), .load (some 3) (.t 8), some (23, true)⟩,
  ⟨(some 26), .mov (.t 1), some (23, true)⟩,
  ⟨(some 27), .bin .add (.t 26) (cI 1), some (23, true)⟩,
  ⟨(some 28), .call (.t 24) [(.t 25), (.t 27)], some (23, true)⟩,
  ⟨(some 29), .un .not (.t 28), some (23, true)⟩,
  oM 30 (.pick (.t 23) (.t 29) (.c (.bool false)))]
 (.cond (.t 30) (sR [oM 6 (.mov (.c (.bool false)))]
 (.ret))
 (.skip)))))
 (.region [oM 31 (.bin .add (.t 17) (cI 1)),
  oT 17 31] none)))
-- pneumatic/boolexp.preorder$1$1
def ic134 : IC := sR [oM 4 (.box (.t 0)),
  oM 6 (.mov (.c (.bool false)))]
 (.seq (sR [oN 9 2,
  oT 10 1,
  oL 11 3 4,
  oM 12 (.call (.t 9) [(.t 10), (.t 11)]),
  oM 13 (.un .not (.t 12))]
 (.cond (.t 13) (sR [oM 6 (.mov (.c (.bool false)))]
 (.ret))
 (.skip)))
 (.seq (sR [oF 14 2 4,
  oN 15 14,
  oM 16 (.len false (.t 15)),
  oM 17 (.mov (cI 0))]
 (.block 0 (.loop zug)))
 (sR [oM 6 (.mov (.c (.bool true)))]
 (.ret))))
theorem fn134 : env0.fn 134 = some ⟨32, ic134, [.t 6]⟩ := by kernel_rfl
structure Cap (M : Nat -> Prop) (a sa b sb id sp : Nat) (H : HS) : Prop where
 na : ¬ M a
 nb : ¬ M b
 ha : Am.look a H.heap = some (sa, .cells [.yield id sp])
 hb : Am.look b H.heap = some (sb, .cells [.fn 134 [] [.mptr a sa 0, .mptr b sb 0]])
 la : a < H.next
 lb : b < H.next
theorem Cap.keep {M : Nat -> Prop} {a sa b sb id sp : Nat} {H H' : HS} (h : Cap M a sa b sb id sp H) (k : Keep M H H') : Cap M a sa b sb id sp H' :=
 ⟨h.na, h.nb, (k.look a h.na h.la).trans h.ha, (k.look b h.nb h.lb).trans h.hb, y09 h.la k.next, y09 h.lb k.next⟩
section
variable {σ τ : Type} (step : σ -> Int -> Ex -> σ ⊕ τ) (M : Nat -> Prop) (I : σ -> HS -> Prop) (J : τ -> HS -> Prop)
def Left (H : HS) (o : σ ⊕ τ) (v : AV) (H' : HS) : Prop :=
 Keep M H H' /\ match o with
  | .inl s => v = .bool true /\ I s H'
  | .inr t => v = .bool false /\ J t H'
variable {step M I J}
set_option maxHeartbeats 4000000 in
theorem visit102 {w0 : World} {N0 a sa b sb id sp : Nat} (hloc : Local M I) (hy : ∀ s d x H, I s H -> CT Tryz.prog w0 N0 (.yield id sp) [.int .i64 d, .agg (cX x)] H (Left M I J H (step s d x))) :
  ∀ (n : Nat) (x : Ex) (d : Int) (H : HS) (s : σ), SizeOf.sizeOf x <= n -> Slim x -> 0 <= d -> d <= 17 -> I s H -> Cap M a sa b sb id sp H ->
   FT Tryz.prog w0 N0 134 [.agg (cX x), .int .i64 d, .mptr a sa 0, .mptr b sb 0] H (Left M I J H (zfm step d x s)) := by
 intro n
 induction n with
 | zero => intro x d H s hn; cases x; simp at hn
 | succ n ih =>
  intro x d H s hn hw h0 h17 hI hC;obtain ⟨op, ix, args⟩ := x;refine zbl env0_ok fn134 [(0, .agg (cX (.nd op ix args))), (1, .int .i64 d), (2, .mptr a sa 0), (3, .mptr b sb 0)] (by show 4 <= 32; decide) rfl ?_
  unfold ic134;refine zb7 ?_;have hC1 := hC.keep (Keep.new M H (H.clk, .cells (cX (.nd op ix args))));refine zab rfl hC1.ha hC1.la rfl ?_;repeat (first | refine zan rfl ?_)
  refine zbp rfl za3 (y07 _) rfl rfl ?_;refine zhh _ rfl rfl (hy s d (.nd op ix args) ⟨_, _, _⟩ (hloc.new hI _ _)) (fun _ _ _ _ hm => absurd hm y0c) fun v H2 hF => ?_;obtain ⟨hK, hF⟩ := hF;have hK2 : Keep M H H2 := (Keep.new M H _).trans hK;have hC2 := hC.keep hK2;obtain ⟨hlen, hsl⟩ : args.length < 9223372036854775808 /\ ∀ y ∈ args, Slim y := by cases hw with | nd h k => exact ⟨h, k⟩
  have hwx : zfm step d (.nd op ix args) s = match step s d (.nd op ix args) with | .inr t => .inr t | .inl s' => zgh step d args s' := by rw [zfm]; cases step s d (.nd op ix args) <;> rfl
  rw [hwx];cases hst : step s d (.nd op ix args) with
  | inr t =>
   rw [hst] at hF;obtain ⟨rfl, hJ⟩ := hF;refine zbh ?_;exact zaa ⟨.inr rfl, _, rfl, hK2, rfl, hJ⟩
  | inl s1 =>
   rw [hst] at hF;obtain ⟨rfl, hI1⟩ := hF;refine zbh ?_;refine zab rfl ((hK.look H.next (fun hm => y21 _ (hloc.lt s H hI _ hm)) (y07 _)).trans za3) (y09 (y07 _) hK.next) rfl ?_;refine zc9 ?_;refine zav (fun m S => ∃ i s' H', m = args.length - i /\ i <= args.length /\ zgh step d args s1 = zgh step d (args.drop i) s' /\ I s' H' /\ Keep M H H' /\
     S = st 32 [(1, .int .i64 d), (3, .mptr b sb 0), (15, .vs (cXs args)), (16, .int .i64 (cXs args).length), (17, .int .i64 (i : Nat))] H'.heap H'.next H'.clk) args.length
    skp ⟨0, s1, H2, rfl, y0r _, rfl, hI1, hK2, rfl⟩ ?_
   rintro m S ⟨i, s', H', rfl, hi, hwl, hI', hK', rfl⟩;have hC' := hC.keep hK';unfold zug;refine zcj ?_;refine za4 rfl rfl rfl (fun h1 => ?_) fun h1 => ?_
   ·have hlt : i < args.length := by
     have := of_decide_eq_true h1;rw [zai] at this;omega
    have hd : args.drop i = args[i] :: args.drop (i + 1) := y0q hlt;rw [hd] at hwl;have hge := ze2 hlt;have hmem : args[i] ∈ args := y0x hlt;generalize args[i] = y at hwl hge hmem;obtain ⟨yo, yi, ya⟩ := y;refine zc9 ?_;refine zcn rfl rfl (y11 i) hge rfl ?_;refine zb4 ?_;refine zaj rfl rfl rfl rfl za3 rfl rfl ?_;rw [zc7];refine zcj ?_;refine za4 rfl rfl rfl (fun h2 => ?_) fun h2 => ?_
    ·have hd1 : d <= 16 := of_decide_eq_true h2;refine zbu ?_;refine zab rfl ((za5 hC'.lb).trans hC'.hb) (y15 hC'.lb) rfl ?_;repeat (first | refine zgy rfl ?_)
     refine zbp rfl za3 (y07 _) rfl rfl ?_;refine zbu ?_;rw [show IntKind.wrap .i64 (d + 1) = d + 1 from wrap_small _ (by omega) (by omega)]
     refine zhh _ rfl rfl (zgo (ih (.nd yo yi ya) (d + 1) ⟨_, _, _⟩ s' (by have := zgm (op := op) (ix := ix) hmem; omega) (hsl _ hmem) (by omega) (by omega) (hloc.new hI' _ _) (hC'.keep (Keep.new M H' _)))) (fun _ _ _ _ hm => absurd hm y0c) fun v H3 hF3 => ?_
     obtain ⟨hK3, hF3⟩ := hF3;have hK4 : Keep M H H3 := hK'.trans ((Keep.new M H' _).trans hK3);cases hwk : zfm step (d + 1) (.nd yo yi ya) s' with
     | inr t =>
      rw [hwk] at hF3;obtain ⟨rfl, hJ⟩ := hF3;refine zbh ?_;refine zkw ?_;refine zb7 ?_;refine zaa ⟨.inr rfl, _, rfl, hK4, ?_⟩;simp only [hwl, zgh, if_pos hd1, hwk];exact ⟨trivial, hJ⟩
     | inl s2 =>
      rw [hwk] at hF3;obtain ⟨rfl, hI2⟩ := hF3;refine zbh ?_;rw [za7 i (by omega)];exact zad (show args.length - (i + 1) < args.length - i by omega) skp ⟨i + 1, s2, H3, rfl, hlt, by rw [hwl]; simp only [zgh, if_pos hd1, hwk], hI2, hK4, rfl⟩
    ·have hd1 : ¬ d <= 16 := of_decide_eq_false h2;refine zb7 ?_;rw [za7 i (by omega)];exact zad (show args.length - (i + 1) < args.length - i by omega) skp ⟨i + 1, s', ⟨_, _, _⟩, rfl, hlt, by rw [hwl]; simp only [zgh, if_neg hd1], hloc.new hI' _ _, hK'.trans (Keep.new M H' _), rfl⟩
   ·have hi2 : i = args.length := by
     have := of_decide_eq_false h1;rw [zai] at this;omega
    refine zb4 ?_;refine zbq ?_;refine zb4 ?_;refine zaa ⟨.inr rfl, _, rfl, hK', ?_⟩;subst hi2;simp only [hwl, y1l, zgh];exact ⟨trivial, hI'⟩
end
-- pneumatic/boolexp.preorder
def ic116 : IC := sR [oM 1 (.box (.t 0)),
  oM 2 (.mov (.c (.nilf)))]
 (sR [oM 3 (.mkfn 133 [] [(.t 1)]),
  oT 2 3]
 (.ret))
theorem fn116 : env0.fn 116 = some ⟨4, ic116, [.t 2]⟩ := by kernel_rfl
theorem zm5 (x : Ex) : PF Tryz.prog 116 [.agg (cX x)] (.fn 133 [] [.vptr (cX x)]) := by
 obtain ⟨op, ix, args⟩ := x;refine za6 env0_ok fn116 [(0, .agg (cX (.nd op ix args)))] (by show 1 <= 4; decide) rfl fun w0 N0 => ?_
 unfold ic116;refine zbh ?_;exact uE
-- pneumatic/boolexp.preorder$1
def ic133 : IC := sR [oM 2 (.box (.t 0))]
 (sR [oM 3 (.alloc [.nilf])]
 (sR [oM 4 (.mkfn 134 [] [(.t 2), (.t 3)]),
  ⟨none, .store 1 (.t 3) (.t 4), none⟩]
 (.region [oN 5 3,
  oL 6 3 1,
  oM 7 (.call (.t 5) [(.t 6), (cI 1)])] none)))
theorem fn133 : env0.fn 133 = some ⟨8, ic133, []⟩ := by kernel_rfl
section
variable {σ τ : Type} {step : σ -> Int -> Ex -> σ ⊕ τ} {M : Nat -> Prop} {I : σ -> HS -> Prop} {J : τ -> HS -> Prop}
theorem zs1 {w0 : World} {N0 id sp : Nat} (hloc : Local M I) (hy : ∀ s d x H, I s H -> CT Tryz.prog w0 N0 (.yield id sp) [.int .i64 d, .agg (cX x)] H (Left M I J H (step s d x))) (x : Ex) (H : HS) (s : σ) (hx : Slim x) (hI : I s H) :
  FT Tryz.prog w0 N0 133 [.yield id sp, .vptr (cX x)] H fun _ H' => Keep M H H' /\ match zfm step 1 x s with
   | .inl s' => I s' H'
   | .inr t => J t H' := by
 refine zbl env0_ok fn133 [(0, .yield id sp), (1, .vptr (cX x))] (by show 2 <= 8; decide) rfl ?_
 obtain ⟨op, ix, args⟩ := x;unfold ic133;refine zbh ?_;refine zaj rfl rfl rfl rfl za3 rfl rfl ?_;rw [zc7];refine zcj ?_;refine zab rfl za3 (y07 _) rfl ?_;repeat (first | refine zbf rfl rfl rfl rfl ?_)
 have hlt := hloc.lt s H hI;have hk0 : Keep M H ⟨(H.next + 1, H.clk + 1, .cells (setAt 0 [.nilf] [.fn 134 [] [.mptr H.next H.clk 0, .mptr (H.next + 1) (H.clk + 1) 0]])) :: (H.next, H.clk, .cells [.yield id sp]) :: H.heap, H.next + 1 + 1, H.clk + 1 + 1⟩ := (Keep.new M H (H.clk, .cells [.yield id sp])).trans (Keep.new M ⟨(H.next, H.clk, .cells [.yield id sp]) :: H.heap, H.next + 1, H.clk + 1⟩ (H.clk + 1, _));refine zhh _ rfl rfl (zgo (visit102 hloc hy (SizeOf.sizeOf (Ex.nd op ix args)) (.nd op ix args) 1 ⟨_, _, _⟩ s (y08 _) hx (by decide) (by decide) (hloc.of s H ⟨_, _, _⟩ hI hk0.next fun i hm => (za5 (y15 (hlt i hm))).trans (za5 (hlt i hm)))
  ⟨fun hm => y21 _ (hlt _ hm), fun hm => Nat.not_succ_lt_self (hlt _ hm), (za5 (y07 _)).trans za3, za3, y15 (y07 _), y07 _⟩)) (fun _ _ _ _ hm => absurd hm y0c) fun v H2 hF => ?_
 obtain ⟨hK, hF⟩ := hF;repeat (first | refine zay ?_)
 refine zaa ⟨.inl rfl, _, rfl, hk0.trans hK, ?_⟩;cases hw : zfm step 1 (.nd op ix args) s with
 | inl s' => rw [hw] at hF; exact hF.2
 | inr t => rw [hw] at hF; exact hF.2
end
def zcx : IC -> List (Code × Code)
 | .seq a b => zcx a ++ zcx b
 | .cond _ a b => zcx a ++ zcx b
 | .block _ b => zcx b
 | .loop b => zcx b
 | .rangeFunc _ _ ca cb _ _ => [(ca, cb)]
 | _ => []
noncomputable def zo3 : Code := match env0.fn 115 with
 | some i => ((zcx i.ic).headD (.skip, .skip)).1
 | none => .skip
noncomputable def zo4 : Code := match env0.fn 115 with
 | some i => ((zcx i.ic).headD (.skip, .skip)).2
 | none => .skip
def zua : IC := .region [oT 7 10] none
def zph : IC := .block 1 (sR [oN 12 5,
  oM 13 (.bin .add (.t 12) (cI 1)),
  ⟨none, .store 1 (.t 5) (.t 13), none⟩]
 (sR [oN 14 6,
  oT 15 7,
  oM 16 (.minmax true [(.t 14), (.t 15)]),
  ⟨none, .store 1 (.t 6) (.t 16), none⟩]
 (sR [oN 17 5,
  oM 18 (.bin .gtr (.t 17) (cI 256)),
  oT 19 18,
  ⟨(some 20), .mov (.t 7), some (19, false)⟩,
  ⟨(some 21), .bin .gtr (.t 20) (cI 16), some (19, false)⟩,
  oM 22 (.pick (.t 19) (.c (.bool true)) (.t 21))]
 (.cond (.t 22) (sR [⟨none, .store 1 (.t 2) (cI 0), none⟩,
  ⟨none, .store 1 (.t 3) (cI 0), none⟩,
  ⟨none, .store 1 (.t 4) (.c (.bool false)), none⟩]
 (.ret))
 (.skip)))))
-- pneumatic/boolexp.measure
noncomputable def ic115 : IC := sR [oM 1 (.box (.t 0)),
  oM 2 (.alloc [.int .i64 0]),
  oM 3 (.alloc [.int .i64 0]),
  oM 4 (.alloc [.bool false])]
 (sR [oM 5 (.alloc [.int .i64 0]),
  oM 6 (.alloc [.int .i64 0]),
  ⟨none, .store 1 (.t 5) (cI 0), none⟩,
  ⟨none, .store 1 (.t 6) (cI 0), none⟩]
 (.seq (sR [oL 8 3 1,
  oM 9 (.call (.c (.fn 116 [] [])) [(.t 8)])]
 (.block 0 (.rangeFunc (.t 9) [10, 11] zo3 zo4 zua zph)))
 (.seq (.region [oN 23 5,
  oN 24 6,
  ⟨none, .store 1 (.t 2) (.t 23), none⟩,
  ⟨none, .store 1 (.t 3) (.t 24), none⟩,
  ⟨none, .store 1 (.t 4) (.c (.bool true)), none⟩] (some [[], [], [0, 0], [1, 2, 0, 1, 2], [3, 0, 1, 2, 3]]))
 (.ret))))
theorem fn115 : env0.fn 115 = some ⟨25, ic115, [.cell 2 none, .cell 3 none, .cell 4 none]⟩ := by kernel_rfl
def deepM (m d : Int) : Int := if d > m then d else m
def zhn (s : Int × Int) (d : Int) (_ : Ex) : (Int × Int) ⊕ Unit := if s.1 + 1 > 256 \/ d > 16 then .inr () else .inl (s.1 + 1, deepM s.2 d)
structure I86 (ltm : List (Nat × AV)) (s : Int × Int) (H : HS) : Prop where
 nx : 8 <= H.next
 n0 : 0 <= s.1 /\ s.1 <= 256
 h7 : Am.look 7 H.heap = some (7, .loop .ready none 25 (zet ltm) [10, 11] zo3 zo4 (6, 6))
 h6 : Am.look 6 H.heap = some (6, .deferred)
 h4 : Am.look 4 H.heap = some (4, .cells [.int .i64 s.1])
 h5 : Am.look 5 H.heap = some (5, .cells [.int .i64 s.2])
 h1 : Am.look 1 H.heap = some (1, .cells [.int .i64 0])
 h2 : Am.look 2 H.heap = some (2, .cells [.int .i64 0])
 h3 : Am.look 3 H.heap = some (3, .cells [.bool false])
structure J86 (_ : Unit) (H : HS) : Prop where
 nx : 8 <= H.next
 h7 : ∃ tm, Am.look 7 H.heap = some (7, .loop .done (some .ret) 25 tm [10, 11] zo3 zo4 (6, 6))
 h6 : Am.look 6 H.heap = some (6, .deferred)
 h1 : Am.look 1 H.heap = some (1, .cells [.int .i64 0])
 h2 : Am.look 2 H.heap = some (2, .cells [.int .i64 0])
 h3 : Am.look 3 H.heap = some (3, .cells [.bool false])
theorem local86 (ltm : List (Nat × AV)) : Local (fun i => i < 8) (I86 ltm) :=
 ⟨fun s H h i hi => y09 hi h.nx, fun s H H' h hn hl =>
  ⟨y0u h.nx hn, h.n0, (hl 7 (by decide)).trans h.h7, (hl 6 (by decide)).trans h.h6, (hl 4 (by decide)).trans h.h4, (hl 5 (by decide)).trans h.h5, (hl 1 (by decide)).trans h.h1, (hl 2 (by decide)).trans h.h2, (hl 3 (by decide)).trans h.h3⟩⟩
def l86 (x : Ex) : List (Nat × AV) := [(9, .fn 133 [] [.vptr (cX x)]), (8, .agg (cX x)), (6, .mptr 5 5 0), (5, .mptr 4 4 0), (4, .mptr 3 3 0), (3, .mptr 2 2 0), (2, .mptr 1 1 0), (1, .mptr 0 0 0), (0, .agg (cX x))]
set_option maxHeartbeats 2000000 in
theorem yield86 {w0 : World} {N0 : Nat} (y : Ex) (ha : Com Tryz.prog zo3 zua) (hb : Com Tryz.prog zo4 zph) (s : Int × Int) (d : Int) (x : Ex) (H : HS) (h : I86 (l86 y) s H) :
  CT Tryz.prog w0 N0 (.yield 7 7) [.int .i64 d, .agg (cX x)] H (Left (fun i => i < 8) (I86 (l86 y)) J86 H (zhn s d x)) := by
 obtain ⟨n, m⟩ := s;obtain ⟨nx, n0, h7, h6, h4, h5, h1, h2, h3⟩ := h;simp only at n0 h4 h5;have e1 : IntKind.wrap .i64 (n + 1) = n + 1 := wrap_small _ (by omega) (by omega);refine ct_yield (l0 := (11, .agg (cX x)) :: (10, .int .i64 d) :: l86 y) h7 ha hb rfl (by decide) rfl ?_;unfold zua;refine zcj ?_;refine zaa ⟨rfl, _, rfl, ?_⟩;unfold zph;refine zc9 ?_;refine zab (sp := 4) (cs := [.int .i64 n]) rfl (by rw [za0, if_neg (by decide)]; exact h4) (by omega) rfl ?_;repeat (first | refine zb3 (op := .add) rfl rfl rfl ?_)
 refine zaj (sp := 4) (cs := [.int .i64 n]) rfl rfl rfl rfl (by rw [za0, if_neg (by decide)]; exact h4) rfl rfl ?_;refine zcj ?_;refine zab (sp := 5) (cs := [.int .i64 m]) rfl (by rw [za0, if_neg (by decide), za0, if_neg (by decide)]; exact h5) (by omega) rfl ?_;refine zbh ?_;refine zaj (sp := 5) (cs := [.int .i64 m]) rfl rfl rfl rfl (by rw [za0, if_neg (by decide), za0, if_neg (by decide)]; exact h5) rfl rfl ?_;refine zcj ?_;refine zab (sp := 4) (cs := [.int .i64 (IntKind.wrap .i64 (n + 1))]) rfl (by rw [za0, if_neg (by decide), za0, if_pos rfl]; rfl) (by omega) rfl ?_;rw [e1];have fin : ∀ l', ¬ (n + 1 > 256 \/ d > 16) -> zqk 7 7 (Left (fun i => i < 8) (I86 (l86 y)) J86 H (zhn (n, m) d x)) .normal
   (st 25 l' (zap 5 (5, .cells [.int .i64 (deepM m d)]) (zap 4 (4, .cells [.int .i64 (n + 1)]) (zap 7 (7, .loop .busy none 25 (zet (l86 y)) [10, 11] zo3 zo4 (6, 6)) H.heap))) H.next H.clk) := fun l' hn => by
  refine ⟨25, zet (l86 y), [10, 11], zo3, zo4, (6, 6), ?_, none, rfl, ⟨y08 _, y08 _, fun i hi _ => ?_⟩, ?_⟩
  ·show Am.look 7 (zap 5 _ (zap 4 _ (zap 7 _ H.heap))) = _;rw [za0, if_neg (by decide), za0, if_neg (by decide), za0, if_pos rfl]
  ·show Am.look i (zap 7 _ (zap 5 _ (zap 4 _ (zap 7 _ H.heap)))) = _;rw [za0, if_neg (by omega), za0, if_neg (by omega), za0, if_neg (by omega), za0, if_neg (by omega)]
  ·unfold zhn;rw [if_neg hn];refine ⟨rfl, nx, by simp only; omega, ?_, ?_, ?_, ?_, ?_, ?_, ?_⟩
   ·show Am.look 7 (zap 7 _ _) = _;rw [za0, if_pos rfl]; rfl
   all_goals
    show Am.look _ (zap 7 _ (zap 5 _ (zap 4 _ (zap 7 _ H.heap)))) = _;rw [za0, if_neg (by decide)]
   ·rw [za0, if_neg (by decide), za0, if_neg (by decide), za0, if_neg (by decide)]; exact h6
   ·rw [za0, if_neg (by decide), za0, if_pos rfl]
   ·rw [za0, if_pos rfl]
   ·rw [za0, if_neg (by decide), za0, if_neg (by decide), za0, if_neg (by decide)]; exact h1
   ·rw [za0, if_neg (by decide), za0, if_neg (by decide), za0, if_neg (by decide)]; exact h2
   ·rw [za0, if_neg (by decide), za0, if_neg (by decide), za0, if_neg (by decide)]; exact h3
 have stop : ∀ l', (n + 1 > 256 \/ d > 16) -> zqk 7 7 (Left (fun i => i < 8) (I86 (l86 y)) J86 H (zhn (n, m) d x)) .ret
   (st 25 l' (zap 3 (3, .cells [.bool false]) (zap 2 (2, .cells [.int .i64 0]) (zap 1 (1, .cells [.int .i64 0]) (zap 5 (5, .cells [.int .i64 (deepM m d)]) (zap 4 (4, .cells [.int .i64 (n + 1)]) (zap 7 (7, .loop .busy none 25 (zet (l86 y)) [10, 11] zo3 zo4 (6, 6)) H.heap)))))) H.next H.clk) := fun l' hn => by
  refine ⟨25, zet (l86 y), [10, 11], zo3, zo4, (6, 6), ?_, some .ret, rfl, ⟨y08 _, y08 _, fun i hi _ => ?_⟩, ?_⟩
  ·show Am.look 7 (zap 3 _ (zap 2 _ (zap 1 _ (zap 5 _ (zap 4 _ (zap 7 _ H.heap)))))) = _;rw [za0, if_neg (by decide), za0, if_neg (by decide), za0, if_neg (by decide), za0, if_neg (by decide), za0, if_neg (by decide), za0, if_pos rfl]
  ·show Am.look i (zap 7 _ (zap 3 _ (zap 2 _ (zap 1 _ (zap 5 _ (zap 4 _ (zap 7 _ H.heap))))))) = _;rw [za0, if_neg (by omega), za0, if_neg (by omega), za0, if_neg (by omega), za0, if_neg (by omega), za0, if_neg (by omega), za0, if_neg (by omega), za0, if_neg (by omega)]
  ·unfold zhn;rw [if_pos hn];refine ⟨rfl, nx, ⟨zet (l86 y), ?_⟩, ?_, ?_, ?_, ?_⟩
   ·show Am.look 7 (zap 7 _ _) = _;rw [za0, if_pos rfl]; rfl
   all_goals
    show Am.look _ (zap 7 _ (zap 3 _ (zap 2 _ (zap 1 _ (zap 5 _ (zap 4 _ (zap 7 _ H.heap))))))) = _;rw [za0, if_neg (by decide)]
   ·rw [za0, if_neg (by decide), za0, if_neg (by decide), za0, if_neg (by decide), za0, if_neg (by decide), za0, if_neg (by decide), za0, if_neg (by decide)]; exact h6
   ·rw [za0, if_neg (by decide), za0, if_neg (by decide), za0, if_pos rfl]
   ·rw [za0, if_neg (by decide), za0, if_pos rfl]
   ·rw [za0, if_pos rfl]
 refine za4 rfl rfl rfl (fun hg => ?_) fun hg => ?_
 ·have hg := of_decide_eq_true hg;refine zc9 ?_;refine zaj (sp := 1) (cs := [.int .i64 0]) rfl rfl rfl rfl (by rw [za0, if_neg (by decide), za0, if_neg (by decide), za0, if_neg (by decide)]; exact h1) rfl rfl ?_;refine zaj (sp := 2) (cs := [.int .i64 0]) rfl rfl rfl rfl (by rw [za0, if_neg (by decide), za0, if_neg (by decide), za0, if_neg (by decide), za0, if_neg (by decide)]; exact h2) rfl rfl ?_;refine zaj (sp := 3) (cs := [.bool false]) rfl rfl rfl rfl (by rw [za0, if_neg (by decide), za0, if_neg (by decide), za0, if_neg (by decide), za0, if_neg (by decide), za0, if_neg (by decide)]; exact h3) rfl rfl ?_;refine zb7 ?_;exact zaa (stop _ (.inl hg))
 ·have hg := of_decide_eq_false hg;refine zbu ?_;refine za4 rfl rfl rfl (fun hd => ?_) fun hd => ?_
  ·have hd := of_decide_eq_true hd;refine zl6 ?_;refine zaj (sp := 1) (cs := [.int .i64 0]) rfl rfl rfl rfl (by rw [za0, if_neg (by decide), za0, if_neg (by decide), za0, if_neg (by decide)]; exact h1) rfl rfl ?_;refine zaj (sp := 2) (cs := [.int .i64 0]) rfl rfl rfl rfl (by rw [za0, if_neg (by decide), za0, if_neg (by decide), za0, if_neg (by decide), za0, if_neg (by decide)]; exact h2) rfl rfl ?_;refine zaj (sp := 3) (cs := [.bool false]) rfl rfl rfl rfl (by rw [za0, if_neg (by decide), za0, if_neg (by decide), za0, if_neg (by decide), za0, if_neg (by decide), za0, if_neg (by decide)]; exact h3) rfl rfl ?_;refine zb7 ?_;exact zaa (stop _ (.inr hd))
  ·have hd := of_decide_eq_false hd;refine zb7 ?_;exact zaa (fin _ fun hx => hx.elim hg hd)
theorem zci {S : AS} {id sp : Nat} {cs : List AV} (h : Am.look id S.heap = some (sp, .cells cs)) (hn : id < S.next) : S.deref (.mptr id sp 0) = some cs := by
 simp only [AS.deref, h];rw [if_pos ⟨trivial, hn⟩, y26]
theorem zm9 {S : AS} {a b c : Nat} {pa pb pc va vb vc : AV} {ra rb rc : List AV} (h1 : S.get a = some pa) (d1 : S.deref pa = some (va :: ra)) (h2 : S.get b = some pb) (d2 : S.deref pb = some (vb :: rb)) (h3 : S.get c = some pc) (d3 : S.deref pc = some (vc :: rc)) :
  S.res [.cell a none, .cell b none, .cell c none] = some (.tup [va, vb, vc]) := by
 simp [AS.res, AS.resL, zq1, h1, h2, h3, d1, d2, d3]
def zn6 (x : Ex) : AV := match zfm zhn 1 x (0, 0) with
 | .inl (n, m) => .tup [.int .i64 n, .int .i64 m, .bool true]
 | .inr _ => .tup [.int .i64 0, .int .i64 0, .bool false]
set_option maxHeartbeats 2000000 in
theorem zw4 (x : Ex) (hs : Slim x) : PF Tryz.prog 115 [.agg (cX x)] (zn6 x) := by
 obtain ⟨op, ix, args⟩ := x;refine za6 env0_ok fn115 [(0, .agg (cX (.nd op ix args)))] (by show 1 <= 25; decide) rfl fun w0 N0 => ?_
 unfold ic115;refine zbh ?_;refine zal rfl rfl (zm5 (.nd op ix args)) noC ?_;refine zc9 ?_;refine zxl (.inl rfl) rfl fun ha hb => (zs1 (local86 (l86 (.nd op ix args))) (fun s d x H h => yield86 (.nd op ix args) ha hb s d x H h) (.nd op ix args) ⟨_, _, _⟩ (0, 0) hs ⟨y08 _, ⟨y2j _, by decide⟩, rfl, rfl, rfl, rfl, rfl, rfl, rfl⟩).mono fun v H2 hF => ?_;obtain ⟨hK, hF⟩ := hF;unfold zn6;cases hwk : zfm zhn 1 (.nd op ix args) (0, 0) with
 | inl s =>
  rw [hwk] at hF;obtain ⟨n, m⟩ := s;obtain ⟨nx, n0, h7, h6, h4, h5, h1, h2, h3⟩ := hF;simp only at n0 h4 h5;refine ⟨_, _, .normal, _, _, _, _, _, _, h7, by simp, rfl, fun z hz => ?_, ?_⟩
  ·obtain rfl := y0o.1 hz;rw [zac, if_neg (by decide)]; exact h6
  ·refine zb7 ?_;refine znq env0_ok [] (fun _ hx => absurd hx y0c) (fun _ => false) (fun i => i == 4 || i == 5) (fun i => i == 1 || i == 2 || i == 3) (fun i h1 h2 => by simp at h1 h2; omega) rfl rfl rfl ?_;refine zab (sp := 4) (cs := [.int .i64 n]) rfl (by rw [zac, if_neg (by decide)]; exact h4) (by omega) rfl ?_;refine zab (sp := 5) (cs := [.int .i64 m]) rfl (by rw [zac, if_neg (by decide)]; exact h5) (by omega) rfl ?_;refine zaj (sp := 1) (cs := [.int .i64 0]) rfl rfl rfl rfl (by rw [zac, if_neg (by decide)]; exact h1) rfl rfl ?_;refine zaj (sp := 2) (cs := [.int .i64 0]) rfl rfl rfl rfl (by rw [za0, if_neg (by decide), zac, if_neg (by decide)]; exact h2) rfl rfl ?_;refine zaj (sp := 3) (cs := [.bool false]) rfl rfl rfl rfl (by rw [za0, if_neg (by decide), za0, if_neg (by decide), zac, if_neg (by decide)]; exact h3) rfl rfl ?_;refine zcj ?_;refine zaa ⟨.inr rfl, .tup [.int .i64 n, .int .i64 m, .bool true], zm9 (zch 2) (zci (sp := 1) (cs := [.int .i64 n]) ?_ ?_) (zch 3) (zci (sp := 2) (cs := [.int .i64 m]) ?_ ?_) (zch 4) (zci (sp := 3) (cs := [.bool true]) ?_ ?_), rfl⟩
   ·show Am.look 1 (zbx 6 (zap 3 _ (zap 2 _ (zap 1 _ (zbx 7 H2.heap))))) = _;rw [zac, if_neg (by decide), za0, if_neg (by decide), za0, if_neg (by decide), za0, if_pos rfl]; rfl
   ·show 1 < H2.next; omega
   ·show Am.look 2 (zbx 6 (zap 3 _ (zap 2 _ (zap 1 _ (zbx 7 H2.heap))))) = _;rw [zac, if_neg (by decide), za0, if_neg (by decide), za0, if_pos rfl]; rfl
   ·show 2 < H2.next; omega
   ·show Am.look 3 (zbx 6 (zap 3 _ (zap 2 _ (zap 1 _ (zbx 7 H2.heap))))) = _;rw [zac, if_neg (by decide), za0, if_pos rfl]; rfl
   ·show 3 < H2.next; omega
 | inr u =>
  rw [hwk] at hF;obtain ⟨nx, ⟨tm, h7⟩, h6, h1, h2, h3⟩ := hF;refine ⟨_, _, .ret, _, _, _, _, _, _, h7, by simp, rfl, fun z hz => ?_, ?_⟩
  ·obtain rfl := y0o.1 hz;rw [zac, if_neg (by decide)]; exact h6
  ·refine zb7 ?_;refine zaa ⟨.inr rfl, .tup [.int .i64 0, .int .i64 0, .bool false], zm9 (zch 2) (zci (sp := 1) (cs := [.int .i64 0]) ?_ ?_) (zch 3) (zci (sp := 2) (cs := [.int .i64 0]) ?_ ?_) (zch 4) (zci (sp := 3) (cs := [.bool false]) ?_ ?_), rfl⟩
   ·show Am.look 1 (zbx 6 (zbx 7 H2.heap)) = _;rw [zac, if_neg (by decide), zac, if_neg (by decide)]; exact h1
   ·show 1 < H2.next; omega
   ·show Am.look 2 (zbx 6 (zbx 7 H2.heap)) = _;rw [zac, if_neg (by decide), zac, if_neg (by decide)]; exact h2
   ·show 2 < H2.next; omega
   ·show Am.look 3 (zbx 6 (zbx 7 H2.heap)) = _;rw [zac, if_neg (by decide), zac, if_neg (by decide)]; exact h3
   ·show 3 < H2.next; omega
def zqf : AV := .agg [.int .i64 0, .int .i64 0, .nilf, .int .i64 0, .int .i64 0, .nilf, .int .i64 1, .int .i64 1, .fn 139 [] [.vptr [.bool false]], .int .i64 2, .int .i64 256, .fn 139 [] [.vptr [.bool true]], .int .i64 2, .int .i64 256, .fn 136 [] []]
-- pneumatic/boolexp.every
def ic135 : IC := sR [oM 1 (.box (.t 0)),
  oM 2 (.mov (.c (.nilf)))]
 (sR [oM 3 (.mkfn 139 [] [(.t 1)]),
  oT 2 3]
 (.ret))
theorem fn135 : env0.fn 135 = some ⟨4, ic135, [.t 2]⟩ := by kernel_rfl
theorem zr9 (b : Bool) : PF Tryz.prog 135 [.bool b] (.fn 139 [] [.vptr [.bool b]]) := by
 refine za6 env0_ok fn135 [(0, .bool b)] (y04 rfl) rfl fun w0 N0 => ?_;unfold ic135;refine zbh ?_;exact uE
-- pneumatic/boolexp.shapes
def ic118 : IC := sR [oM 0 (.alloc [.int .i64 0, .int .i64 0, .nilf, .int .i64 0, .int .i64 0, .nilf, .int .i64 0, .int .i64 0, .nilf, .int .i64 0, .int .i64 0, .nilf, .int .i64 0, .int .i64 0, .nilf])]
 (sR [oM 1 (.build [.int .i64 0, .int .i64 0, .nilf] []),
  oM 2 (.build [.int .i64 0, .int .i64 0, .nilf] []),
  oM 3 (.call (.c (.fn 135 [] [])) [(.c (.bool false))]),
  oM 4 (.build [.int .i64 0, .int .i64 0, .nilf] [(0, 1, (cI 1)), (1, 1, (cI 1)), (2, 1, (.t 3))]),
  oM 5 (.call (.c (.fn 135 [] [])) [(.c (.bool true))]),
  oM 6 (.build [.int .i64 0, .int .i64 0, .nilf] [(0, 1, (cI 2)), (1, 1, (cI 256)), (2, 1, (.t 5))]),
  oM 7 (.build [.int .i64 0, .int .i64 0, .nilf] [(0, 1, (cI 2)), (1, 1, (cI 256)), (2, 1, (.c (.fn 136 [] [])))]),
  oM 8 (.build [.int .i64 0, .int .i64 0, .nilf, .int .i64 0, .int .i64 0, .nilf, .int .i64 0, .int .i64 0, .nilf, .int .i64 0, .int .i64 0, .nilf, .int .i64 0, .int .i64 0, .nilf] [(0, 3, (.t 1)), (3, 3, (.t 2)), (6, 3, (.t 4)), (9, 3, (.t 6)), (12, 3, (.t 7))]),
  ⟨none, .store 15 (.t 0) (.t 8), none⟩]
 (.ret))
theorem fn118 : env0.fn 118 = some ⟨9, ic118, [.cell 0 (some 15)]⟩ := by kernel_rfl
theorem zwx : PF Tryz.prog 118 [] zqf := by
 have p1 := zr9 false;have p2 := zr9 true;refine za6 env0_ok fn118 [] (y04 rfl) rfl fun w0 N0 => ?_;unfold ic118;refine zbh ?_;exact uE
theorem zmf (n : Int) (hn : 0 <= n /\ n <= 256) : IntKind.i64.wrap (n - 1) = n - 1 := by
 by_cases h : n = 0
 ·subst h; decide
 ·exact wrap_small _ (by omega) (by omega)
def zok (op : Int) : Int := if op = 2 then 1 else if op = 3 \/ op = 4 then 2 else 0
def zoq (op : Int) : Int := if op = 2 then 1 else if op = 3 \/ op = 4 then 256 else 0
def zt4 (op n : Int) : Int := if op = 0 then 1 else if op = 1 then n - 1 else 0
def zfl (op ix k n : Int) : Int :=
 if op < 0 \/ op >= 5 then 1 else if k < zok op \/ k > zoq op then 3 else if ix < 0 \/ ix > zt4 op n then 2 else 0
-- pneumatic/boolexp.node
def ic117 : IC := sR [oM 2 (.box (.t 0)),
  oM 4 (.mov (cI 0))]
 (.seq (sR [oF 7 0 2,
  oN 8 7,
  oM 9 (.bin .lss (.t 8) (cI 0)),
  oT 10 9,
  ⟨(some 11), .faddr 0 (.t 2), some (10, false)⟩,
  ⟨(some 12), .load none (.t 11), some (10, false)⟩,
  ⟨(some 13), .bin .geq (.t 12) (cI 5), some (10, false)⟩,
  oM 14 (.pick (.t 10) (.c (.bool true)) (.t 13))]
 (.cond (.t 14) (sR [oM 4 (.mov (cI 1))]
 (.ret))
 (.skip)))
 (.seq (.region [oM 15 (.call (.c (.fn 118 [] [])) []),
  oF 16 0 2,
  oN 17 16,
  oM 18 (.idxagg 5 3 true (.t 15) (.t 17)),
  oM 5 (.alloc [.int .i64 0, .int .i64 0, .nilf]),
  ⟨none, .store 3 (.t 5) (.t 18), none⟩] (some [[], [], [1], [0, 2], [], [4, 3, 0, 0, 1, 2, 3, 4]]))
 (.seq (sR [oF 19 2 2,
  oN 20 19,
  oM 21 (.len false (.t 20)),
  oF 22 0 5,
  oN 23 22,
  oM 24 (.bin .lss (.t 21) (.t 23)),
  oT 25 24,
  ⟨(some 26), .faddr 2 (.t 2), some (25, false)⟩,
  ⟨(some 27), .load none (.t 26), some (25, false)⟩,
  ⟨(some 28), .len false (.t 27), some (25, false)⟩,
  ⟨(some 29), .faddr 1 (.t 5), some (25, false)⟩,
  ⟨(some 30), .load none (.t 29), some (25, false)⟩,
  ⟨(some 31), .bin .gtr (.t 28) (.t 30), some (25, false)⟩,
  oM 32 (.pick (.t 25) (.c (.bool true)) (.t 31))]
 (.cond (.t 32) (sR [oM 4 (.mov (cI 3))]
 (.ret))
 (.skip)))
 (sR [oM 6 (.mov (cI 0))]
 (.seq (sR [oF 33 0 2,
  oN 34 33]
 (.block 0 (sR [oM 36 (.bin .eql (.t 34) (cI 0)),
  oT 35 36]
 (.cond (.t 35) (.region [oM 6 (.mov (cI 1))] none)
 (sR [oM 38 (.bin .eql (.t 34) (cI 1)),
  oT 37 38]
 (.cond (.t 37) (.region [oT 39 1,
  oM 40 (.bin .sub (.t 39) (cI 1)),
  oT 6 40] none)
 (.skip)))))))
 (.seq (sR [oF 41 1 2,
  oN 42 41,
  oM 43 (.bin .lss (.t 42) (cI 0)),
  oT 44 43,
  ⟨(some 45), .faddr 1 (.t 2), some (44, false)⟩,
  ⟨(some 46), .load none (.t 45), some (44, false)⟩,
  ⟨(some 47), .mov (.t 6), some (44, false)⟩,
  ⟨(some 48), .bin .gtr (.t 46) (.t 47), some (44, false)⟩,
  oM 49 (.pick (.t 44) (.c (.bool true)) (.t 48))]
 (.cond (.t 49) (sR [oM 4 (.mov (cI 2))]
 (.ret))
 (.skip)))
 (sR [oM 4 (.mov (cI 0))]
 (.ret))))))))
theorem fn117 : env0.fn 117 = some ⟨50, ic117, [.t 4]⟩ := by kernel_rfl
theorem nvC {α β : Type} {f : α -> β} {a b : α} (h : a = b := by (simp (decide := true) only [zfl, zok, zoq, zt4, if_true, if_false]; (repeat' split) <;> omega)) : f a = f b := congrArg f h
set_option maxHeartbeats 4000000 in
theorem node88 (op ix n : Int) (args : List Ex) (hn : 0 <= n /\ n <= 256) : PF Tryz.prog 117 [.agg (cX (.nd op ix args)), .int .i64 n] (.int .i64 (zfl op ix args.length n)) := by
 refine za6 env0_ok fn117 [(0, .agg (cX (.nd op ix args))), (1, .int .i64 n)] (by show 2 <= 50; decide) rfl fun w0 N0 => ?_
 unfold ic117;refine zb7 ?_;refine za4 rfl rfl rfl (fun h1 => ?_) fun h1 => ?_
 ·have h1 := of_decide_eq_true h1;refine zc9 ?_;refine zaa ⟨.inr rfl, _, rfl, ?_⟩;unfold zfl;rw [if_pos (.inl h1)];rfl
 have h1 := of_decide_eq_false h1;refine zbu ?_;refine za4 rfl rfl rfl (fun h2 => ?_) fun h2 => ?_
 ·have h2 := of_decide_eq_true h2;refine zbu ?_;refine zaa ⟨.inr rfl, _, rfl, ?_⟩;unfold zfl;rw [if_pos (.inr h2)];rfl
 have h2 := of_decide_eq_false h2;refine zl6 ?_;refine zc2 env0_ok [(118, [], zqf)] (fun x hx => by obtain rfl := y0o.1 hx; exact zwx) (fun f => Nat.beq f 118) rfl rfl rfl ?_;refine zal rfl rfl zb6 noC ?_;have hlen : ((cXs args).length : Int) = (args.length : Int) := by rw [zai]
 have hop : op = 0 \/ op = 1 \/ op = 2 \/ op = 3 \/ op = 4 := by omega
 unfold zqf;rcases hop with rfl | rfl | rfl | rfl | rfl
 ·refine zbh ?_;refine za4 rfl rfl rfl (fun h3 => ?_) fun h3 => ?_
  ·have h3 := of_decide_eq_true h3;refine zbu ?_;refine zaa ⟨.inr rfl, _, rfl, ?_⟩;show AV.int .i64 3 = AV.int .i64 _;exact nvC
  have h30 := of_decide_eq_false h3;clear h3;refine zbh ?_;refine za4 rfl rfl rfl (fun h4 => ?_) fun h4 => ?_
  ·have h4 := of_decide_eq_true h4;refine zc9 ?_;refine zaa ⟨.inr rfl, _, rfl, ?_⟩;show AV.int .i64 2 = AV.int .i64 _;exact nvC
  have h4a := of_decide_eq_false h4;clear h4;refine zbu ?_;refine za4 rfl rfl rfl (fun h4 => ?_) fun h4 => ?_
  ·have h4 := of_decide_eq_true h4;refine zbu ?_;refine zaa ⟨.inr rfl, _, rfl, ?_⟩;show AV.int .i64 2 = AV.int .i64 _;exact nvC
  have h4b := of_decide_eq_false h4;refine zl6 ?_;refine zaa ⟨.inr rfl, _, rfl, ?_⟩;show AV.int .i64 0 = AV.int .i64 _;exact nvC
 ·refine zbh ?_;refine za4 rfl rfl rfl (fun h3 => ?_) fun h3 => ?_
  ·have h3 := of_decide_eq_true h3;refine zbu ?_;refine zaa ⟨.inr rfl, _, rfl, ?_⟩;show AV.int .i64 3 = AV.int .i64 _;exact nvC
  have h30 := of_decide_eq_false h3;clear h3;refine zbh ?_;refine za4 rfl rfl rfl (fun h4 => ?_) fun h4 => ?_
  ·have h4 := of_decide_eq_true h4;refine zc9 ?_;refine zaa ⟨.inr rfl, _, rfl, ?_⟩;show AV.int .i64 2 = AV.int .i64 _;exact nvC
  have h4a := of_decide_eq_false h4;clear h4;refine zbu ?_;refine za4 rfl rfl rfl (fun h4 => ?_) fun h4 => ?_
  ·have h4 := of_decide_eq_true h4;rw [zmf n hn] at h4;refine zbu ?_;refine zaa ⟨.inr rfl, _, rfl, ?_⟩;show AV.int .i64 2 = AV.int .i64 _;exact nvC
  have h4b := of_decide_eq_false h4;rw [zmf n hn] at h4b;refine zl6 ?_;refine zaa ⟨.inr rfl, _, rfl, ?_⟩;show AV.int .i64 0 = AV.int .i64 _;exact nvC
 ·refine zbh ?_;refine za4 rfl rfl rfl (fun h3 => ?_) fun h3 => ?_
  ·have h3 := of_decide_eq_true h3;refine zc9 ?_;refine zaa ⟨.inr rfl, _, rfl, ?_⟩;show AV.int .i64 3 = AV.int .i64 _;exact nvC
  have h30 := of_decide_eq_false h3;clear h3;refine zbu ?_;refine za4 rfl rfl rfl (fun h3 => ?_) fun h3 => ?_
  ·have h3 := of_decide_eq_true h3;refine zbu ?_;refine zaa ⟨.inr rfl, _, rfl, ?_⟩;show AV.int .i64 3 = AV.int .i64 _;exact nvC
  have h31 := of_decide_eq_false h3;clear h3;refine zb4 ?_;refine za4 rfl rfl rfl (fun h4 => ?_) fun h4 => ?_
  ·have h4 := of_decide_eq_true h4;refine zc9 ?_;refine zaa ⟨.inr rfl, _, rfl, ?_⟩;show AV.int .i64 2 = AV.int .i64 _;exact nvC
  have h4a := of_decide_eq_false h4;clear h4;refine zbu ?_;refine za4 rfl rfl rfl (fun h4 => ?_) fun h4 => ?_
  ·have h4 := of_decide_eq_true h4;refine zbu ?_;refine zaa ⟨.inr rfl, _, rfl, ?_⟩;show AV.int .i64 2 = AV.int .i64 _;exact nvC
  have h4b := of_decide_eq_false h4;refine zl6 ?_;refine zaa ⟨.inr rfl, _, rfl, ?_⟩;show AV.int .i64 0 = AV.int .i64 _;exact nvC
 ·refine zbh ?_;refine za4 rfl rfl rfl (fun h3 => ?_) fun h3 => ?_
  ·have h3 := of_decide_eq_true h3;refine zc9 ?_;refine zaa ⟨.inr rfl, _, rfl, ?_⟩;show AV.int .i64 3 = AV.int .i64 _;exact nvC
  have h30 := of_decide_eq_false h3;clear h3;refine zbu ?_;refine za4 rfl rfl rfl (fun h3 => ?_) fun h3 => ?_
  ·have h3 := of_decide_eq_true h3;refine zbu ?_;refine zaa ⟨.inr rfl, _, rfl, ?_⟩;show AV.int .i64 3 = AV.int .i64 _;exact nvC
  have h31 := of_decide_eq_false h3;clear h3;refine zb4 ?_;refine za4 rfl rfl rfl (fun h4 => ?_) fun h4 => ?_
  ·have h4 := of_decide_eq_true h4;refine zc9 ?_;refine zaa ⟨.inr rfl, _, rfl, ?_⟩;show AV.int .i64 2 = AV.int .i64 _;exact nvC
  have h4a := of_decide_eq_false h4;clear h4;refine zbu ?_;refine za4 rfl rfl rfl (fun h4 => ?_) fun h4 => ?_
  ·have h4 := of_decide_eq_true h4;refine zbu ?_;refine zaa ⟨.inr rfl, _, rfl, ?_⟩;show AV.int .i64 2 = AV.int .i64 _;exact nvC
  have h4b := of_decide_eq_false h4;refine zl6 ?_;refine zaa ⟨.inr rfl, _, rfl, ?_⟩;show AV.int .i64 0 = AV.int .i64 _;exact nvC
 ·refine zbh ?_;refine za4 rfl rfl rfl (fun h3 => ?_) fun h3 => ?_
  ·have h3 := of_decide_eq_true h3;refine zc9 ?_;refine zaa ⟨.inr rfl, _, rfl, ?_⟩;show AV.int .i64 3 = AV.int .i64 _;exact nvC
  have h30 := of_decide_eq_false h3;clear h3;refine zbu ?_;refine za4 rfl rfl rfl (fun h3 => ?_) fun h3 => ?_
  ·have h3 := of_decide_eq_true h3;refine zbu ?_;refine zaa ⟨.inr rfl, _, rfl, ?_⟩;show AV.int .i64 3 = AV.int .i64 _;exact nvC
  have h31 := of_decide_eq_false h3;clear h3;refine zb4 ?_;refine za4 rfl rfl rfl (fun h4 => ?_) fun h4 => ?_
  ·have h4 := of_decide_eq_true h4;refine zc9 ?_;refine zaa ⟨.inr rfl, _, rfl, ?_⟩;show AV.int .i64 2 = AV.int .i64 _;exact nvC
  have h4a := of_decide_eq_false h4;clear h4;refine zbu ?_;refine za4 rfl rfl rfl (fun h4 => ?_) fun h4 => ?_
  ·have h4 := of_decide_eq_true h4;refine zbu ?_;refine zaa ⟨.inr rfl, _, rfl, ?_⟩;show AV.int .i64 2 = AV.int .i64 _;exact nvC
  have h4b := of_decide_eq_false h4;refine zl6 ?_;refine zaa ⟨.inr rfl, _, rfl, ?_⟩;show AV.int .i64 0 = AV.int .i64 _;exact nvC
section
variable {P : Program} {w0 : World} {N0 : Nat}
theorem zux {id sp size : Nat} {args : List AV} {ltm l0 : List (Nat × AV)} {ps : List Nat} {ca cb : Code} {df : Nat × Nat} {ia ib : IC} {H : HS} {F : AV -> HS -> Prop} (hl : Am.look id H.heap = some (sp, .loop .ready none size (zet ltm) ps ca cb df))
  (ha : Com P ca ia) (hb : Com P cb ib) (hps : ps.length = args.length) (hlt : ∀ p ∈ ps, p < size) (hput : ziq ps args (zet ltm) = zet l0)
  (h : Zm P w0 N0 (some (some (id, sp))) ia (st size l0 H.heap H.next H.clk) [] fun e S1 => e = .normal /\ ∃ l1 hp1 n1 c1, S1 = st size l1 hp1 n1 c1 /\ Am.look id hp1 = some (sp, .loop .ready none size (zet ltm) ps ca cb df) /\
   Zm P w0 N0 (some (some (id, sp))) ib (st size l1 (zap id (sp, .loop .busy none size (zet ltm) ps ca cb df) hp1) n1 c1) [] (zqk id sp F)) : CT P w0 N0 (.yield id sp) args H F := by
 refine zmg hl ha hb hps hlt ?_;have e : AS.round size (zet ltm) ps args H = st size l0 H.heap H.next H.clk := by
  unfold AS.round st;rw [hput]
 rw [e];refine zgz h.ok fun e S1 ⟨he, l1, hp1, n1, c1, hS, hlk, hz⟩ => ⟨he, ?_⟩
 subst hS;exact ⟨size, zet ltm, ps, ca, cb, df, hlk, hz.ok⟩
end
theorem zp3 {S : AS} {a : Nat} {pa va : AV} {ra : List AV} (h1 : S.get a = some pa) (d1 : S.deref pa = some (va :: ra)) : S.res [.cell a none] = some va := by
 simp [AS.res, AS.resL, zq1, h1, d1]
noncomputable def ca85 : Code := match env0.fn 85 with
 | some i => ((zcx i.ic).headD (.skip, .skip)).1
 | none => .skip
noncomputable def cb85 : Code := match env0.fn 85 with
 | some i => ((zcx i.ic).headD (.skip, .skip)).2
 | none => .skip
def asg85 : IC := .region [oM 9 (.alloc [.int .i64 0, .int .i64 0, .nils]),
  ⟨none, .store 3 (.t 9) (.t 28), none⟩] none
def zuh : IC := .block 1 (sR [oL 29 3 9,
  oN 30 3,
  oM 31 (.call (.c (.fn 117 [] [])) [(.t 29), (.t 30)]),
  oT 10 31]
 (sR [oT 32 10,
  oM 33 (.bin .neq (.t 32) (cI 0))]
 (.cond (.t 33) (sR [oT 34 10,
  ⟨none, .store 1 (.t 4) (.t 34), none⟩]
 (.ret))
 (.skip))))
-- pneumatic/boolexp.Check
noncomputable def ic85 : IC := sR [oM 2 (.box (.t 0)),
  oM 3 (.box (.t 1)),
  oM 4 (.alloc [.int .i64 0])]
 (.seq (sR [oN 11 3,
  oM 12 (.bin .lss (.t 11) (cI 0)),
  oT 13 12,
  ⟨(some 14), .load none (.t 3), some (13, false)⟩,
  ⟨(some 15), .bin .gtr (.t 14) (cI 256), some (13, false)⟩,
  oM 16 (.pick (.t 13) (.c (.bool true)) (.t 15))]
 (.cond (.t 16) (sR [⟨none, .store 1 (.t 4) (cI 2), none⟩]
 (.ret))
 (.skip)))
 (.seq (sR [oL 18 3 2,
  oM 19 (.call (.c (.fn 115 [] [])) [(.t 18)]),
  oT 17 19,
  oM 20 (.extract (.t 17) 0),
  oM 21 (.extract (.t 17) 1),
  oM 22 (.extract (.t 17) 2),
  oT 5 20,
  oT 6 21,
  oT 7 22]
 (sR [oT 23 7,
  oM 24 (.un .not (.t 23))]
 (.cond (.t 24) (sR [⟨none, .store 1 (.t 4) (cI 5), none⟩]
 (.ret))
 (.skip))))
 (.seq (sR [oL 25 3 2,
  oM 26 (.call (.c (.fn 116 [] [])) [(.t 25)])]
 (.block 0 (.rangeFunc (.t 26) [27, 28] ca85 cb85 asg85 zuh)))
 (sR [⟨none, .store 1 (.t 4) (cI 0), none⟩]
 (.ret)))))
theorem fn85 : env0.fn 85 = some ⟨35, ic85, [.cell 4 none]⟩ := by kernel_rfl
def zw9 (n : Int) : Ex -> Int
 | .nd op ix args => zfl op ix args.length n
def zp9 (n : Int) (s : Unit) (_ : Int) (x : Ex) : Unit ⊕ Int := if zw9 n x = 0 then .inl s else .inr (zw9 n x)
structure I59 (ltm : List (Nat × AV)) (n : Int) (_ : Unit) (H : HS) : Prop where
 nx : 5 <= H.next
 h4 : Am.look 4 H.heap = some (4, .loop .ready none 35 (zet ltm) [27, 28] ca85 cb85 (3, 3))
 h3 : Am.look 3 H.heap = some (3, .deferred)
 h2 : Am.look 2 H.heap = some (2, .cells [.int .i64 0])
 h1 : Am.look 1 H.heap = some (1, .cells [.int .i64 n])
structure J59 (t : Int) (H : HS) : Prop where
 nx : 5 <= H.next
 h4 : ∃ tm, Am.look 4 H.heap = some (4, .loop .done (some .ret) 35 tm [27, 28] ca85 cb85 (3, 3))
 h3 : Am.look 3 H.heap = some (3, .deferred)
 h2 : Am.look 2 H.heap = some (2, .cells [.int .i64 t])
theorem local59 (ltm : List (Nat × AV)) (n : Int) : Local (fun i => i < 5) (I59 ltm n) :=
 ⟨fun s H h i hi => y09 hi h.nx, fun s H H' h hn hl =>
  ⟨y0u h.nx hn, (hl 4 (by decide)).trans h.h4, (hl 3 (by decide)).trans h.h3, (hl 2 (by decide)).trans h.h2, (hl 1 (by decide)).trans h.h1⟩⟩
set_option maxHeartbeats 2000000 in
theorem yield59 {w0 : World} {N0 : Nat} (ltm : List (Nat × AV)) (g3 : zar (.t 3) ltm = some (.mptr 1 1 0)) (g4 : zar (.t 4) ltm = some (.mptr 2 2 0)) (n : Int) (hn : 0 <= n /\ n <= 256) (ha : Com Tryz.prog ca85 asg85) (hb : Com Tryz.prog cb85 zuh) (s : Unit) (d : Int) (x : Ex) (H : HS) (h : I59 ltm n s H) :
  CT Tryz.prog w0 N0 (.yield 4 4) [.int .i64 d, .agg (cX x)] H (Left (fun i => i < 5) (I59 ltm n) J59 H (zp9 n s d x)) := by
 obtain ⟨op, ix, args⟩ := x;obtain ⟨nx, h4, h3, h2, h1⟩ := h;have q4 : H.next ≠ 4 := by omega
 refine zux (l0 := (28, .agg (cX (.nd op ix args))) :: (27, .int .i64 d) :: ltm) h4 ha hb rfl (by decide) rfl ?_;unfold asg85;refine zb4 ?_;refine zaj (sp := H.clk) (cs := [.int .i64 0, .int .i64 0, .nils]) rfl rfl rfl rfl za3 rfl rfl ?_;repeat (first | refine zay ?_)
 refine zaa ⟨rfl, _, _, _, _, rfl, ?_, ?_⟩
 ·rw [zc7, zak, if_neg (by omega)]; exact h4
 rw [zc7];unfold zuh;refine zc9 ?_;refine zbp (sp := H.clk) (cs := cX (.nd op ix args)) rfl (by rw [za0, if_neg (by omega)]; exact za3) (by omega) rfl rfl ?_;refine zab (sp := 1) (cs := [.int .i64 n]) g3 (by rw [za0, if_neg (by decide), za5 (by omega)]; exact h1) (by omega) rfl ?_;refine zal rfl rfl (node88 op ix n args hn) noC ?_;refine zcj ?_;refine za4 rfl rfl rfl (fun hg => ?_) fun hg => ?_
 ·have hg := bne_iff_ne.1 hg;refine zcj ?_;refine zaj (sp := 2) (cs := [.int .i64 0]) g4 rfl rfl rfl (by rw [za0, if_neg (by decide), za5 (by omega)]; exact h2) rfl rfl ?_;refine zb7 ?_;refine zaa ⟨35, zet ltm, [27, 28], ca85, cb85, (3, 3), ?_, some .ret, rfl, ⟨y0y _, y0y _, fun i hi hj => ?_⟩, ?_⟩
  ·dsimp only [st];rw [za0, if_neg (by decide), za0, if_pos rfl]
  ·dsimp only [st];rw [za0, if_neg (by omega), za0, if_neg (by omega), za0, if_neg (by omega), za5 (by omega)]
  ·unfold zp9;rw [if_neg (show ¬ zw9 n (.nd op ix args) = 0 from hg)]
   refine ⟨rfl, Nat.le_succ_of_le nx, ⟨zet ltm, ?_⟩, ?_, ?_⟩
   ·dsimp only [st];rw [za0, if_pos rfl]; rfl
   ·dsimp only [st];rw [za0, if_neg (by decide), za0, if_neg (by decide), za0, if_neg (by decide), za5 (by omega)]; exact h3
   ·dsimp only [st];rw [za0, if_neg (by decide), za0, if_pos rfl]; rfl
 ·have hg : zfl op ix args.length n = 0 := by simpa using hg
  refine zb7 ?_;refine zaa ⟨35, zet ltm, [27, 28], ca85, cb85, (3, 3), ?_, none, rfl, ⟨y0y _, y0y _, fun i hi hj => ?_⟩, ?_⟩
  ·dsimp only [st];rw [za0, if_pos rfl]
  ·dsimp only [st];rw [za0, if_neg (by omega), za0, if_neg (by omega), za5 (by omega)]
  ·unfold zp9;rw [if_pos (show zw9 n (.nd op ix args) = 0 from hg)]
   refine ⟨rfl, Nat.le_succ_of_le nx, ?_, ?_, ?_, ?_⟩
   ·dsimp only [st];rw [za0, if_pos rfl]; rfl
   all_goals
    dsimp only [st];rw [za0, if_neg (by decide), za0, if_neg (by decide), za5 (by omega)]
   ·exact h3
   ·exact h2
   ·exact h1
def zlg (x : Ex) (n : Int) : Int := if n < 0 \/ n > 256 then 2 else match zfm zhn 1 x (0, 0) with
 | .inr _ => 5
 | .inl _ => match zfm (zp9 n) 1 x () with
  | .inl _ => 0
  | .inr t => t
set_option maxHeartbeats 2000000 in
theorem zun (x : Ex) (hs : Slim x) (n : Int) : PF Tryz.prog 85 [.agg (cX x), .int .i64 n] (.int .i64 (zlg x n)) := by
 obtain ⟨op, ix, args⟩ := x;refine za6 env0_ok fn85 [(0, .agg (cX (.nd op ix args))), (1, .int .i64 n)] (by show 2 <= 35; decide) rfl fun w0 N0 => ?_
 unfold ic85;refine zb4 ?_;refine za4 rfl rfl rfl (fun hl => ?_) fun hl => ?_
 ·have hl := of_decide_eq_true hl;refine zbh ?_;refine zaa ⟨.inr rfl, _, rfl, ?_⟩;unfold zlg;rw [if_pos (.inl hl)];rfl
 have hl := of_decide_eq_false hl;refine zbu ?_;refine za4 rfl rfl rfl (fun hm => ?_) fun hm => ?_
 ·have hm := of_decide_eq_true hm;refine zbh ?_;refine zaa ⟨.inr rfl, _, rfl, ?_⟩;unfold zlg;rw [if_pos (.inr hm)];rfl
 have hm := of_decide_eq_false hm;have hn : 0 <= n /\ n <= 256 := ⟨by omega, by omega⟩
 unfold zlg;rw [if_neg (fun h => h.elim hl hm)];refine zc9 ?_;have hme := zw4 (.nd op ix args) hs;unfold zn6 at hme;cases hwk : zfm zhn 1 (.nd op ix args) (0, 0) with
 | inr u =>
  rw [hwk] at hme;refine zal rfl rfl hme noC ?_;refine zbh ?_;refine zaa ⟨.inr rfl, _, rfl, rfl⟩
 | inl nm =>
  obtain ⟨nn, mm⟩ := nm;rw [hwk] at hme;refine zal rfl rfl hme noC ?_;refine zbh ?_;refine zal rfl rfl (zm5 (.nd op ix args)) noC ?_;refine zc9 ?_;refine zxl (.inl rfl) rfl fun ha hb => (zs1 (local59 _ n) (fun s d x H h => yield59 _ rfl rfl n hn ha hb s d x H h) (.nd op ix args) ⟨_, _, _⟩ () hs ⟨y08 _, rfl, rfl, rfl, rfl⟩).mono fun v H2 hF => ?_;obtain ⟨hK, hF⟩ := hF;cases hck : zfm (zp9 n) 1 (.nd op ix args) () with
  | inl s =>
   rw [hck] at hF;obtain ⟨nx, h4, h3, h2, h1⟩ := hF;refine ⟨_, _, .normal, _, _, _, _, _, _, h4, by simp, rfl, fun z hz => ?_, ?_⟩
   ·obtain rfl := y0o.1 hz;rw [zac, if_neg (by decide)]; exact h3
   ·refine zb7 ?_;refine zaj (sp := 2) (cs := [.int .i64 0]) rfl rfl rfl rfl (by rw [zac, if_neg (by decide)]; exact h2) rfl rfl ?_;refine zcj ?_;refine zaa ⟨.inr rfl, .int .i64 0, zp3 (zch 4) (zci (sp := 2) (cs := [.int .i64 0]) ?_ ?_), rfl⟩
    ·show Am.look 2 (zbx 3 (zap 2 _ (zbx 4 H2.heap))) = _;rw [zac, if_neg (by decide), za0, if_pos rfl]; rfl
    ·show 2 < H2.next; omega
  | inr t =>
   rw [hck] at hF;obtain ⟨nx, ⟨tm, h4⟩, h3, h2⟩ := hF;refine ⟨_, _, .ret, _, _, _, _, _, _, h4, by simp, rfl, fun z hz => ?_, ?_⟩
   ·obtain rfl := y0o.1 hz;rw [zac, if_neg (by decide)]; exact h3
   ·refine zb7 ?_;refine zaa ⟨.inr rfl, .int .i64 t, zp3 (zch 4) (zci (sp := 2) (cs := [.int .i64 t]) ?_ ?_), rfl⟩
    ·show Am.look 2 (zbx 3 (zbx 4 H2.heap)) = _;rw [zac, if_neg (by decide), zac, if_neg (by decide)]; exact h2
    ·show 2 < H2.next; omega
def ze4 : Nat -> Ex -> Bool
 | 0, _ => false
 | m + 1, .nd _ _ args => if m = 0 then args.isEmpty else args.all (ze4 m)
def body88 : IC := .seq (sR [oT 14 5,
  oF 15 2 2,
  oN 16 15,
  oM 17 (.len false (.t 16)),
  oM 18 (.bin .lss (.t 14) (.t 17))]
 (.cond (.t 18) (.skip)
 (.exit 0)))
 (.seq (.block 1 (sR [oF 21 2 2,
  oN 22 21,
  oT 23 5,
  oM 24 (.idxs 3 (.t 22) (.t 23)),
  oL 25 3 24,
  oT 26 1,
  oM 27 (.bin .sub (.t 26) (cI 1)),
  oM 28 (.call (.c (.fn 88 [] [])) [(.t 25), (.t 27)]),
  oM 29 (.un .not (.t 28))]
 (.cond (.t 29) (sR [oM 4 (.mov (.c (.bool false)))]
 (.ret))
 (.skip))))
 (.region [oT 19 5,
  oM 20 (.bin .add (.t 19) (cI 1)),
  oT 5 20] none))
-- pneumatic/pneumaticref05.Deep
def ic88 : IC := sR [oM 2 (.box (.t 0)),
  oM 4 (.mov (.c (.bool false)))]
 (.seq (sR [oT 6 1,
  oM 7 (.bin .lss (.t 6) (cI 1))]
 (.cond (.t 7) (sR [oM 4 (.mov (.c (.bool false)))]
 (.ret))
 (.skip)))
 (.seq (sR [oT 8 1,
  oM 9 (.bin .eql (.t 8) (cI 1))]
 (.cond (.t 9) (sR [oF 10 2 2,
  oN 11 10,
  oM 12 (.len false (.t 11)),
  oM 13 (.bin .eql (.t 12) (cI 0)),
  oT 4 13]
 (.ret))
 (.skip)))
 (.seq (sR [oM 5 (.mov (cI 0))]
 (.block 0 (.loop body88)))
 (sR [oM 4 (.mov (.c (.bool true)))]
 (.ret)))))
theorem fn88 : env0.fn 88 = some ⟨30, ic88, [.t 4]⟩ := by kernel_rfl
theorem zks {op ix : Int} {args : List Ex} (h : Slim (.nd op ix args)) : args.length < 9223372036854775808 /\ ∀ y ∈ args, Slim y := by
 cases h with | nd h k => exact ⟨h, k⟩
set_option maxHeartbeats 2000000 in
theorem deep73 : ∀ (m : Nat) (x : Ex) (z : Int), z = m -> m <= 300 -> Slim x -> PF Tryz.prog 88 [.agg (cX x), .int .i64 z] (.bool (ze4 m x)) := by
 intro m
 induction m with
 | zero =>
  intro x z hz hm hs;obtain ⟨op, ix, args⟩ := x;refine za6 env0_ok fn88 [(0, .agg (cX (.nd op ix args))), (1, .int .i64 z)] (by show 2 <= 30; decide) rfl fun w0 N0 => ?_
  unfold ic88;refine zb7 ?_;refine za4 rfl rfl rfl (fun h1 => ?_) fun h1 => ?_
  ·refine zbu ?_;exact uE
  ·have h1 := of_decide_eq_false h1;exact absurd hz (by omega)
 | succ m ih =>
  intro x z hz hm hs;obtain ⟨op, ix, args⟩ := x;obtain ⟨hlen, hsl⟩ := zks hs;refine za6 env0_ok fn88 [(0, .agg (cX (.nd op ix args))), (1, .int .i64 z)] (by show 2 <= 30; decide) rfl fun w0 N0 => ?_
  unfold ic88;refine zb7 ?_;refine za4 rfl rfl rfl (fun h1 => ?_) fun h1 => ?_
  ·have h1 := of_decide_eq_true h1;exact absurd hz (by omega)
  refine zl6 ?_;refine za4 rfl rfl rfl (fun h2 => ?_) fun h2 => ?_
  ·have hm0 : m = 0 := by have := beq_iff_eq.1 h2; omega
   subst hm0;refine zbu ?_;have hd : ze4 (0 + 1) (.nd op ix args) = args.isEmpty := rfl;rw [hd];refine za4 rfl rfl rfl (fun h3 => ?_) fun h3 => ?_
   ·refine zbu ?_;refine zaa ⟨.inr rfl, _, rfl, ?_⟩;have h3 : ((cXs args).length : Int) = 0 := beq_iff_eq.1 h3;rw [zai] at h3;have : args = [] := y0k.1 (by omega);subst this;rfl
   ·refine zbu ?_;refine zaa ⟨.inr rfl, _, rfl, ?_⟩;have h3 : ¬ ((cXs args).length : Int) = 0 := by simpa using h3
    rw [zai] at h3;cases args with
    | nil => exact absurd rfl h3
    | cons a l => rfl
  have hm0 : m ≠ 0 := by
   have : ¬ z = 1 := by simpa using h2
   omega
  have hd : ze4 (m + 1) (.nd op ix args) = args.all (ze4 m) := by rw [ze4, if_neg hm0]
  rw [hd];refine zc9 ?_;refine zav (fun mm S => ∃ i, mm = args.length - i /\ i <= args.length /\ args.all (ze4 m) = (args.drop i).all (ze4 m) /\
    S = st 30 [(1, .int .i64 z), (2, .mptr 0 0 0), (5, .int .i64 (i : Nat))] [(0, 0, .cells (cX (.nd op ix args)))] 1 1) args.length
   skp ⟨0, rfl, y0r _, rfl, rfl⟩ ?_
  rintro mm S ⟨i, rfl, hi, hall, rfl⟩;unfold body88;refine zbu ?_;refine za4 rfl rfl rfl (fun h3 => ?_) fun h3 => ?_
  ·have hlt : i < args.length := by
    have := of_decide_eq_true h3;rw [zai] at this;omega
   have hdr : args.drop i = args[i] :: args.drop (i + 1) := y0q hlt;rw [hdr] at hall;have hge := ze2 hlt;have hmem : args[i] ∈ args := y0x hlt;generalize args[i] = y at hall hge hmem;obtain ⟨yo, yi, ya⟩ := y;refine zc9 ?_;refine zcn rfl rfl (y11 i) hge rfl ?_;refine zbh ?_;rw [show IntKind.wrap .i64 (z - 1) = z - 1 from wrap_small _ (by omega) (by omega)]
   have hc := ih (.nd yo yi ya) (z - 1) (by omega) (by omega) (hsl _ hmem);rw [y1s] at hall;cases hb : ze4 m (.nd yo yi ya) with
   | true =>
    rw [hb] at hc hall;rw [y1o] at hall;refine zal rfl rfl hc noC ?_;refine zbh ?_;rw [za7 i (by omega)];exact zad (show args.length - (i + 1) < args.length - i by omega) skp ⟨i + 1, rfl, hlt, hall, rfl⟩
   | false =>
    rw [hb] at hc hall;rw [y28] at hall;refine zal rfl rfl hc noC ?_;refine zbh ?_;refine zkw ?_;refine zb7 ?_;refine zaa ⟨.inr rfl, _, rfl, ?_⟩;rw [hall];rfl
  ·have hi2 : i = args.length := by
    have := of_decide_eq_false h3;rw [zai] at this;omega
   refine zb4 ?_;refine zbq ?_;refine zb4 ?_;refine zaa ⟨.inr rfl, _, rfl, ?_⟩;subst hi2;rw [hall, y1l];rfl
mutual
def cnt (most : Int) : Ex -> Int
 | .nd _ _ args => zpm most 1 args
def zpm (most n : Int) : List Ex -> Int
 | [] => n
 | y :: ys => if n <= most then zpm most (n + cnt (most - n) y) ys else n
end
mutual
theorem zli (most : Int) (h : 0 <= most) : ∀ x : Ex, 1 <= cnt most x /\ cnt most x <= most + 1
 | .nd op ix args => by
  rw [cnt];exact zus most h 1 (by omega) (by omega) args
theorem zus (most : Int) (h : 0 <= most) (n : Int) (h1 : 1 <= n) (h2 : n <= most + 1) : ∀ l : List Ex, 1 <= zpm most n l /\ zpm most n l <= most + 1
 | [] => by rw [zpm]; exact ⟨h1, h2⟩
 | y :: ys => by
  rw [zpm];split
  ·have := zli (most - n) (by omega) y;exact zus most h _ (by omega) (by omega) ys
  ·exact ⟨h1, h2⟩
end
def body87 : IC := .seq (sR [oT 7 6,
  oF 8 2 2,
  oN 9 8,
  oM 10 (.len false (.t 9)),
  oM 11 (.bin .lss (.t 7) (.t 10)),
  oT 12 11,
  ⟨(some 13), .mov (.t 5), some (12, true)⟩,
  ⟨(some 14), .mov (.t 1), some (12, true)⟩,
  ⟨(some 15), .bin .leq (.t 13) (.t 14), some (12, true)⟩,
  oM 16 (.pick (.t 12) (.t 15) (.c (.bool false)))]
 (.cond (.t 16) (.skip)
 (.exit 0)))
 (.seq (.block 1 (.region [oT 19 5,
  oF 20 2 2,
  oN 21 20,
  oT 22 6,
  oM 23 (.idxs 3 (.t 21) (.t 22)),
  oL 24 3 23,
  oT 25 1,
  oT 26 5,
  oM 27 (.bin .sub (.t 25) (.t 26)),
  oM 28 (.call (.c (.fn 87 [] [])) [(.t 24), (.t 27)]),
  oM 29 (.bin .add (.t 19) (.t 28)),
  oT 5 29] none))
 (.region [oT 17 6,
  oM 18 (.bin .add (.t 17) (cI 1)),
  oT 6 18] none))
-- pneumatic/pneumaticref05.count
def ic87 : IC := sR [oM 2 (.box (.t 0)),
  oM 4 (.mov (cI 0))]
 (sR [oM 5 (.mov (cI 1))]
 (.seq (sR [oM 6 (.mov (cI 0))]
 (.block 0 (.loop body87)))
 (sR [oT 30 5,
  oT 4 30]
 (.ret))))
theorem fn87 : env0.fn 87 = some ⟨31, ic87, [.t 4]⟩ := by kernel_rfl
set_option maxHeartbeats 2000000 in
theorem count72 : ∀ (q : Nat) (x : Ex) (z : Int), SizeOf.sizeOf x <= q -> Slim x -> 0 <= z -> z <= 1000 -> PF Tryz.prog 87 [.agg (cX x), .int .i64 z] (.int .i64 (cnt z x)) := by
 intro q
 induction q with
 | zero => intro x z hq; cases x; simp at hq
 | succ q ih =>
  intro x z hq hs h0 hz;obtain ⟨op, ix, args⟩ := x;obtain ⟨hlen, hsl⟩ := zks hs;refine za6 env0_ok fn87 [(0, .agg (cX (.nd op ix args))), (1, .int .i64 z)] (by show 2 <= 31; decide) rfl fun w0 N0 => ?_
  unfold ic87;have hd : cnt z (.nd op ix args) = zpm z 1 args := by rw [cnt]
  rw [hd];refine zb7 ?_;refine zav (fun mm S => ∃ i nn, mm = args.length - i /\ i <= args.length /\ 1 <= nn /\ nn <= z + 1 /\ zpm z 1 args = zpm z nn (args.drop i) /\
    S = st 31 [(1, .int .i64 z), (2, .mptr 0 0 0), (5, .int .i64 nn), (6, .int .i64 (i : Nat))] [(0, 0, .cells (cX (.nd op ix args)))] 1 1) args.length
   skp ⟨0, 1, rfl, y0r _, by omega, by omega, rfl, rfl⟩ ?_
  rintro mm S ⟨i, nn, rfl, hi, hn1, hn2, hall, rfl⟩;unfold body87;refine zbu ?_;refine za4 rfl rfl rfl (fun h3 => ?_) fun h3 => ?_
  ·have hlt : i < args.length := by
    have := of_decide_eq_true h3;rw [zai] at this;omega
   have hdr : args.drop i = args[i] :: args.drop (i + 1) := y0q hlt;rw [hdr] at hall;have hge := ze2 hlt;have hmem : args[i] ∈ args := y0x hlt;generalize args[i] = y at hall hge hmem;obtain ⟨yo, yi, ya⟩ := y;refine zbu ?_;refine za4 rfl rfl rfl (fun h4 => ?_) fun h4 => ?_
   ·have h4 := of_decide_eq_true h4;rw [zpm, if_pos h4] at hall;refine zc9 ?_;refine zcn rfl rfl (y11 i) hge rfl ?_;refine zbh ?_;rw [show IntKind.wrap .i64 (z - nn) = z - nn from wrap_small _ (by omega) (by omega)]
    refine zal rfl rfl (ih (.nd yo yi ya) (z - nn) (by have := zgm (op := op) (ix := ix) hmem; omega) (hsl _ hmem) (by omega) (by omega)) noC ?_
    have hb := zli (z - nn) (by omega) (.nd yo yi ya);refine zb7 ?_;rw [za7 i (by omega), show IntKind.wrap .i64 (nn + cnt (z - nn) (.nd yo yi ya)) = nn + cnt (z - nn) (.nd yo yi ya) from wrap_small _ (by omega) (by omega)]
    exact zad (show args.length - (i + 1) < args.length - i by omega) skp ⟨i + 1, _, rfl, hlt, by omega, by omega, hall, rfl⟩
   ·have h4 := of_decide_eq_false h4;rw [zpm, if_neg h4] at hall;refine zb4 ?_;refine zbq ?_;refine zb4 ?_;refine zaa ⟨.inr rfl, _, rfl, ?_⟩;rw [hall];rfl
  ·have hi2 : i = args.length := by
    have := of_decide_eq_false h3;rw [zai] at this;omega
   refine zb4 ?_;refine zbq ?_;refine zb4 ?_;refine zaa ⟨.inr rfl, _, rfl, ?_⟩;subst hi2;rw [hall, y1l, zpm];rfl
end Go.Proofs.YtdolbghhcijonaaGreat
namespace Go.Proofs.YtdolbghhcijonaaGreat
open Go Go.Am
-- pneumatic/pneumaticref05.node
def ic126 : IC := sR [oM 2 (.box (.t 0)),
  oM 4 (.mov (cI 0))]
 (.seq (sR [oF 7 0 2,
  oN 8 7,
  oM 9 (.bin .lss (.t 8) (cI 0)),
  oT 10 9,
  ⟨(some 11), .faddr 0 (.t 2), some (10, false)⟩,
  ⟨(some 12), .load none (.t 11), some (10, false)⟩,
  ⟨(some 13), .bin .geq (.t 12) (cI 5), some (10, false)⟩,
  oM 14 (.pick (.t 10) (.c (.bool true)) (.t 13))]
 (.cond (.t 14) (sR [oM 4 (.mov (cI 1))]
 (.ret))
 (.skip)))
 (sR [oF 15 2 2,
  oN 16 15,
  oM 17 (.len false (.t 16)),
  oT 5 17]
 (.seq (sR [oF 18 0 2,
  oN 19 18,
  oM 20 (.bin .leq (.t 19) (cI 1)),
  oT 21 20,
  ⟨(some 22), .mov (.t 5), some (21, true)⟩,
  ⟨(some 23), .bin .neq (.t 22) (cI 0), some (21, true)⟩,
  oM 24 (.pick (.t 21) (.t 23) (.c (.bool false))),
  oT 25 24,
  ⟨(some 26), .faddr 0 (.t 2), some (25, false)⟩,
  ⟨(some 27), .load none (.t 26), some (25, false)⟩,
  ⟨(some 28), .bin .eql (.t 27) (cI 2), some (25, false)⟩,
  ⟨(some 29), .mov (.t 28), some (25, false)⟩,
  ⟨(some 30), .mov (.t 5), some (29, true)⟩,
  ⟨(some 31), .bin .neq (.t 30) (cI 1), some (29, true)⟩,
  ⟨(some 32), .pick (.t 29) (.t 31) (.c (.bool false)), some (25, false)⟩,
  oM 33 (.pick (.t 25) (.c (.bool true)) (.t 32)),
  oT 34 33,
  ⟨(some 35), .faddr 0 (.t 2), some (34, false)⟩,
  ⟨(some 36), .load none (.t 35), some (34, false)⟩,
  ⟨(some 37), .bin .geq (.t 36) (cI 3), some (34, false)⟩,
  ⟨(some 38), .mov (.t 37), some (34, false)⟩,
  ⟨(some 39), .mov (.t 5), some (38, true)⟩,
  ⟨(some 40), .bin .lss (.t 39) (cI 2), some (38, true)⟩,
  ⟨(some 41), .pick (.t 38) (.t 40) (.c (.bool false)), some (34, false)⟩,
  oM 42 (.pick (.t 34) (.c (.bool true)) (.t 41))]
 (.cond (.t 42) (sR [oM 4 (.mov (cI 3))]
 (.ret))
 (.skip)))
 (sR [oM 6 (.mov (cI 1))]
 (.seq (sR [oF 43 0 2,
  oN 44 43,
  oM 45 (.bin .eql (.t 44) (cI 0))]
 (.cond (.t 45) (.region [oM 6 (.mov (cI 2))] none)
 (.skip)))
 (.seq (sR [oF 46 0 2,
  oN 47 46,
  oM 48 (.bin .eql (.t 47) (cI 1))]
 (.cond (.t 48) (.region [oT 49 1,
  oT 6 49] none)
 (.skip)))
 (.seq (sR [oF 50 1 2,
  oN 51 50,
  oM 52 (.bin .lss (.t 51) (cI 0)),
  oT 53 52,
  ⟨(some 54), .faddr 1 (.t 2), some (53, false)⟩,
  ⟨(some 55), .load none (.t 54), some (53, false)⟩,
  ⟨(some 56), .mov (.t 6), some (53, false)⟩,
  ⟨(some 57), .bin .geq (.t 55) (.t 56), some (53, false)⟩,
  oM 58 (.pick (.t 53) (.c (.bool true)) (.t 57))]
 (.cond (.t 58) (sR [oM 4 (.mov (cI 2))]
 (.ret))
 (.skip)))
 (sR [oM 4 (.mov (cI 0))]
 (.ret)))))))))
theorem fn126 : env0.fn 126 = some ⟨59, ic126, [.t 4]⟩ := by kernel_rfl
set_option maxHeartbeats 4000000 in
theorem node104 (op ix n : Int) (args : List Ex) (hk : args.length <= 256) : PF Tryz.prog 126 [.agg (cX (.nd op ix args)), .int .i64 n] (.int .i64 (zfl op ix args.length n)) := by
 refine za6 env0_ok fn126 [(0, .agg (cX (.nd op ix args))), (1, .int .i64 n)] (by show 2 <= 59; decide) rfl fun w0 N0 => ?_
 unfold ic126;refine zb7 ?_;refine za4 rfl rfl rfl (fun h1 => ?_) fun h1 => ?_
 ·have h1 := of_decide_eq_true h1;refine zc9 ?_;refine zaa ⟨.inr rfl, _, rfl, ?_⟩;unfold zfl;rw [if_pos (.inl h1)];rfl
 have h1 := of_decide_eq_false h1;refine zbu ?_;refine za4 rfl rfl rfl (fun h2 => ?_) fun h2 => ?_
 ·have h2 := of_decide_eq_true h2;refine zbu ?_;refine zaa ⟨.inr rfl, _, rfl, ?_⟩;unfold zfl;rw [if_pos (.inr h2)];rfl
 have h2 := of_decide_eq_false h2;have hlen : ((cXs args).length : Int) = (args.length : Int) := by rw [zai]
 have hop : op = 0 \/ op = 1 \/ op = 2 \/ op = 3 \/ op = 4 := by omega
 rcases hop with rfl | rfl | rfl | rfl | rfl
 ·refine zbh ?_;refine za4 rfl rfl rfl (fun h3 => ?_) fun h3 => ?_
  ·have h3 := bne_iff_ne.1 h3;refine zbh ?_;refine zaa ⟨.inr rfl, _, rfl, ?_⟩;show AV.int .i64 3 = AV.int .i64 _;exact nvC
  have h3a : ((cXs args).length : Int) = 0 := by simpa using h3
  clear h3;refine zbh ?_;refine za4 rfl rfl rfl (fun h4 => ?_) fun h4 => ?_
  ·have h4 := of_decide_eq_true h4;refine zc9 ?_;refine zaa ⟨.inr rfl, _, rfl, ?_⟩;show AV.int .i64 2 = AV.int .i64 _;exact nvC
  have h4a := of_decide_eq_false h4;clear h4;refine zbu ?_;refine za4 rfl rfl rfl (fun h4 => ?_) fun h4 => ?_
  ·have h4 := of_decide_eq_true h4;refine zbu ?_;refine zaa ⟨.inr rfl, _, rfl, ?_⟩;show AV.int .i64 2 = AV.int .i64 _;exact nvC
  have h4b := of_decide_eq_false h4;refine zl6 ?_;refine zaa ⟨.inr rfl, _, rfl, ?_⟩;show AV.int .i64 0 = AV.int .i64 _;exact nvC
 ·refine zbh ?_;refine za4 rfl rfl rfl (fun h3 => ?_) fun h3 => ?_
  ·have h3 := bne_iff_ne.1 h3;refine zbh ?_;refine zaa ⟨.inr rfl, _, rfl, ?_⟩;show AV.int .i64 3 = AV.int .i64 _;exact nvC
  have h3a : ((cXs args).length : Int) = 0 := by simpa using h3
  clear h3;refine zbh ?_;refine za4 rfl rfl rfl (fun h4 => ?_) fun h4 => ?_
  ·have h4 := of_decide_eq_true h4;refine zc9 ?_;refine zaa ⟨.inr rfl, _, rfl, ?_⟩;show AV.int .i64 2 = AV.int .i64 _;exact nvC
  have h4a := of_decide_eq_false h4;clear h4;refine zbu ?_;refine za4 rfl rfl rfl (fun h4 => ?_) fun h4 => ?_
  ·have h4 := of_decide_eq_true h4;refine zbu ?_;refine zaa ⟨.inr rfl, _, rfl, ?_⟩;show AV.int .i64 2 = AV.int .i64 _;exact nvC
  have h4b := of_decide_eq_false h4;refine zl6 ?_;refine zaa ⟨.inr rfl, _, rfl, ?_⟩;show AV.int .i64 0 = AV.int .i64 _;exact nvC
 ·refine zbh ?_;refine za4 rfl rfl rfl (fun h3 => ?_) fun h3 => ?_
  ·have h3 := bne_iff_ne.1 h3;refine zbh ?_;refine zaa ⟨.inr rfl, _, rfl, ?_⟩;show AV.int .i64 3 = AV.int .i64 _;exact nvC
  have h3a : ((cXs args).length : Int) = 1 := by simpa using h3
  clear h3;refine zb4 ?_;refine za4 rfl rfl rfl (fun h4 => ?_) fun h4 => ?_
  ·have h4 := of_decide_eq_true h4;refine zc9 ?_;refine zaa ⟨.inr rfl, _, rfl, ?_⟩;show AV.int .i64 2 = AV.int .i64 _;exact nvC
  have h4a := of_decide_eq_false h4;clear h4;refine zbu ?_;refine za4 rfl rfl rfl (fun h4 => ?_) fun h4 => ?_
  ·have h4 := of_decide_eq_true h4;refine zbu ?_;refine zaa ⟨.inr rfl, _, rfl, ?_⟩;show AV.int .i64 2 = AV.int .i64 _;exact nvC
  have h4b := of_decide_eq_false h4;refine zl6 ?_;refine zaa ⟨.inr rfl, _, rfl, ?_⟩;show AV.int .i64 0 = AV.int .i64 _;exact nvC
 ·refine zbh ?_;refine za4 rfl rfl rfl (fun h3 => ?_) fun h3 => ?_
  ·have h3 := of_decide_eq_true h3;refine zc9 ?_;refine zaa ⟨.inr rfl, _, rfl, ?_⟩;show AV.int .i64 3 = AV.int .i64 _;exact nvC
  have h3a := of_decide_eq_false h3;clear h3;refine zb4 ?_;refine za4 rfl rfl rfl (fun h4 => ?_) fun h4 => ?_
  ·have h4 := of_decide_eq_true h4;refine zc9 ?_;refine zaa ⟨.inr rfl, _, rfl, ?_⟩;show AV.int .i64 2 = AV.int .i64 _;exact nvC
  have h4a := of_decide_eq_false h4;clear h4;refine zbu ?_;refine za4 rfl rfl rfl (fun h4 => ?_) fun h4 => ?_
  ·have h4 := of_decide_eq_true h4;refine zbu ?_;refine zaa ⟨.inr rfl, _, rfl, ?_⟩;show AV.int .i64 2 = AV.int .i64 _;exact nvC
  have h4b := of_decide_eq_false h4;refine zl6 ?_;refine zaa ⟨.inr rfl, _, rfl, ?_⟩;show AV.int .i64 0 = AV.int .i64 _;exact nvC
 ·refine zbh ?_;refine za4 rfl rfl rfl (fun h3 => ?_) fun h3 => ?_
  ·have h3 := of_decide_eq_true h3;refine zc9 ?_;refine zaa ⟨.inr rfl, _, rfl, ?_⟩;show AV.int .i64 3 = AV.int .i64 _;exact nvC
  have h3a := of_decide_eq_false h3;clear h3;refine zb4 ?_;refine za4 rfl rfl rfl (fun h4 => ?_) fun h4 => ?_
  ·have h4 := of_decide_eq_true h4;refine zc9 ?_;refine zaa ⟨.inr rfl, _, rfl, ?_⟩;show AV.int .i64 2 = AV.int .i64 _;exact nvC
  have h4a := of_decide_eq_false h4;clear h4;refine zbu ?_;refine za4 rfl rfl rfl (fun h4 => ?_) fun h4 => ?_
  ·have h4 := of_decide_eq_true h4;refine zbu ?_;refine zaa ⟨.inr rfl, _, rfl, ?_⟩;show AV.int .i64 2 = AV.int .i64 _;exact nvC
  have h4b := of_decide_eq_false h4;refine zl6 ?_;refine zaa ⟨.inr rfl, _, rfl, ?_⟩;show AV.int .i64 0 = AV.int .i64 _;exact nvC
inductive Thin : Ex -> Prop
 | nd {op ix : Int} {args : List Ex} (h : args.length <= 256) (k : ∀ y ∈ args, Thin y) : Thin (.nd op ix args)
theorem zx8 {op ix : Int} {args : List Ex} (h : Thin (.nd op ix args)) : args.length <= 256 /\ ∀ y ∈ args, Thin y := by
 cases h with | nd h k => exact ⟨h, k⟩
mutual
def nds (n : Int) : Ex -> Int
 | .nd op ix args => if zfl op ix args.length n = 0 then ztn n args else zfl op ix args.length n
def ztn (n : Int) : List Ex -> Int
 | [] => 0
 | y :: ys => if nds n y = 0 then ztn n ys else nds n y
end
def zuf : IC := .seq (sR [oT 14 6,
  oF 15 2 2,
  oN 16 15,
  oM 17 (.len false (.t 16)),
  oM 18 (.bin .lss (.t 14) (.t 17))]
 (.cond (.t 18) (.skip)
 (.exit 0)))
 (.seq (.block 1 (sR [oF 21 2 2,
  oN 22 21,
  oT 23 6,
  oM 24 (.idxs 3 (.t 22) (.t 23)),
  oL 25 3 24,
  oT 26 1,
  oM 27 (.call (.c (.fn 102 [] [])) [(.t 25), (.t 26)]),
  oT 7 27]
 (sR [oT 28 7,
  oM 29 (.bin .neq (.t 28) (cI 0))]
 (.cond (.t 29) (sR [oT 30 7,
  oT 4 30]
 (.ret))
 (.skip)))))
 (.region [oT 19 6,
  oM 20 (.bin .add (.t 19) (cI 1)),
  oT 6 20] none))
-- pneumatic/pneumaticref05.nodes
def ic102 : IC := sR [oM 2 (.box (.t 0)),
  oM 4 (.mov (cI 0))]
 (.seq (sR [oL 8 3 2,
  oT 9 1,
  oM 10 (.call (.c (.fn 126 [] [])) [(.t 8), (.t 9)]),
  oT 5 10]
 (sR [oT 11 5,
  oM 12 (.bin .neq (.t 11) (cI 0))]
 (.cond (.t 12) (sR [oT 13 5,
  oT 4 13]
 (.ret))
 (.skip))))
 (.seq (sR [oM 6 (.mov (cI 0))]
 (.block 0 (.loop zuf)))
 (sR [oM 4 (.mov (cI 0))]
 (.ret))))
theorem fn102 : env0.fn 102 = some ⟨31, ic102, [.t 4]⟩ := by kernel_rfl
set_option maxHeartbeats 2000000 in
theorem nodes89 (z : Int) : ∀ (q : Nat) (x : Ex), SizeOf.sizeOf x <= q -> Thin x -> PF Tryz.prog 102 [.agg (cX x), .int .i64 z] (.int .i64 (nds z x)) := by
 intro q
 induction q with
 | zero => intro x hq; cases x; simp at hq
 | succ q ih =>
  intro x hq hs;obtain ⟨op, ix, args⟩ := x;obtain ⟨hlen, hsl⟩ := zx8 hs;refine za6 env0_ok fn102 [(0, .agg (cX (.nd op ix args))), (1, .int .i64 z)] (by show 2 <= 31; decide) rfl fun w0 N0 => ?_
  unfold ic102;have hd : nds z (.nd op ix args) = if zfl op ix args.length z = 0 then ztn z args else zfl op ix args.length z := by rw [nds]
  rw [hd];refine zb7 ?_;refine zal rfl rfl (node104 op ix z args hlen) noC ?_;refine zcj ?_;refine za4 rfl rfl rfl (fun h3 => ?_) fun h3 => ?_
  ·have h3 := bne_iff_ne.1 h3;rw [if_neg h3];refine zbu ?_;exact uE
  have h3 : zfl op ix args.length z = 0 := by simpa using h3
  rw [if_pos h3];refine zc9 ?_;refine zav (fun mm S => ∃ i, mm = args.length - i /\ i <= args.length /\ ztn z args = ztn z (args.drop i) /\
    S = st 31 [(1, .int .i64 z), (2, .mptr 0 0 0), (6, .int .i64 (i : Nat))] [(0, 0, .cells (cX (.nd op ix args)))] 1 1) args.length
   skp ⟨0, rfl, y0r _, rfl, rfl⟩ ?_
  rintro mm S ⟨i, rfl, hi, hall, rfl⟩;unfold zuf;refine zbu ?_;refine za4 rfl rfl rfl (fun h3 => ?_) fun h3 => ?_
  ·have hlt : i < args.length := by
    have := of_decide_eq_true h3;rw [zai] at this;omega
   have hdr : args.drop i = args[i] :: args.drop (i + 1) := y0q hlt;rw [hdr] at hall;have hge := ze2 hlt;have hmem : args[i] ∈ args := y0x hlt;generalize args[i] = y at hall hge hmem;obtain ⟨yo, yi, ya⟩ := y;rw [ztn] at hall;refine zc9 ?_;refine zcn rfl rfl (y11 i) hge rfl ?_;refine zc9 ?_;refine zal rfl rfl (ih (.nd yo yi ya) (by have := zgm (op := op) (ix := ix) hmem; omega) (hsl _ hmem)) noC ?_
   refine zcj ?_;refine za4 rfl rfl rfl (fun h4 => ?_) fun h4 => ?_
   ·have h4 := bne_iff_ne.1 h4;rw [if_neg h4] at hall;refine zb7 ?_;refine zkw ?_;refine zb7 ?_;refine zaa ⟨.inr rfl, _, rfl, ?_⟩;rw [hall];rfl
   ·have h4 : nds z (.nd yo yi ya) = 0 := by simpa using h4
    rw [if_pos h4] at hall;refine zb7 ?_;rw [za7 i (by omega)];exact zad (show args.length - (i + 1) < args.length - i by omega) skp ⟨i + 1, rfl, hlt, hall, rfl⟩
  ·have hi2 : i = args.length := by
    have := of_decide_eq_false h3;rw [zai] at this;omega
   refine zb4 ?_;refine zbq ?_;refine zb4 ?_;refine zaa ⟨.inr rfl, _, rfl, ?_⟩;subst hi2;rw [hall, y1l, ztn];rfl
end Go.Proofs.YtdolbghhcijonaaGreat
