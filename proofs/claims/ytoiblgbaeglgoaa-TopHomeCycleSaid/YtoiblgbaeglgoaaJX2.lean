/-
  R1, R2, R3, R4, R5, R6, R7, R8, R9 in one text.
-/
import Derived.Test.YtoiblgbaeglgoaaJX1
namespace Go.Proofs.Ytoiblgbaeglgoaa
open Go Go.Am
def zxa : IC := .seq (.region [oM 18 (.bin .lss (.t 17) (.t 16))] none)
 (.seq (.cond (.t 18) (.skip)
 (.exit 0))
 (.seq (.block 1 (.seq (.region [oM 19 (.idxs 3 (.t 15) (.t 17)),
  oL 20 3 19,
  oM 8 (.alloc [.int .i64 0, .int .i64 0, .nils]),
  ⟨none, .store 3 (.t 8) (.t 20), none⟩] none)
 (.seq (.region [oT 21 1,
  oM 22 (.bin .leq (.t 21) (.c (.int .i64 16))),
  oT 23 22,
  ⟨(some 24), .load none (.t 3), some (23, true)⟩,
  ⟨(some 25), .load (some 3) (.t 8), some (23, true)⟩,
  ⟨(some 26), .mov (.t 1), some (23, true)⟩,
  ⟨(some 27), .bin .add (.t 26) (.c (.int .i64 1)), some (23, true)⟩,
  ⟨(some 28), .call (.t 24) [(.t 25), (.t 27)], some (23, true)⟩,
  ⟨(some 29), .un .not (.t 28), some (23, true)⟩,
  oM 30 (.pick (.t 23) (.t 29) (.c (.bool false)))] none)
 (.cond (.t 30) (.seq (.region [oM 6 (.mov (.c (.bool false)))] none)
 (.ret))
 (.skip)))))
 (.region [oM 31 (.bin .add (.t 17) (.c (.int .i64 1))),
  oT 17 31] none)))
-- pneumatic/boolexp.preorder$1$1
def ic166 : IC := .seq (.region [oM 4 (.box (.t 0)),
  oM 6 (.mov (.c (.bool false)))] none)
 (.seq (.seq (.region [oN 9 2,
  oT 10 1,
  oL 11 3 4,
  oM 12 (.call (.t 9) [(.t 10), (.t 11)]),
  oM 13 (.un .not (.t 12))] none)
 (.cond (.t 13) (.seq (.region [oM 6 (.mov (.c (.bool false)))] none)
 (.ret))
 (.skip)))
 (.seq (.seq (.region [oF 14 2 4,
  oN 15 14,
  oM 16 (.len false (.t 15)),
  oM 17 (.mov (.c (.int .i64 0)))] none)
 (.block 0 (.loop zxa)))
 (.seq (.region [oM 6 (.mov (.c (.bool true)))] none)
 (.ret))))
theorem fn166 : env0.fn 166 = some ⟨32, ic166, [.t 6]⟩ := by kernel_rfl
structure Cap (M : Nat → Prop) (a sa b sb id sp : Nat) (H : HS) : Prop where
 na : ¬ M a
 nb : ¬ M b
 ha : Am.look a H.heap = some (sa, .cells [.yield id sp])
 hb : Am.look b H.heap = some (sb, .cells [.fn 166 [] [.mptr a sa 0, .mptr b sb 0]])
 la : a < H.next
 lb : b < H.next
theorem Cap.keep {M : Nat → Prop} {a sa b sb id sp : Nat} {H H' : HS} (h : Cap M a sa b sb id sp H) (k : Keep M H H') : Cap M a sa b sb id sp H' :=
 ⟨h.na, h.nb, (k.look a h.na h.la).trans h.ha, (k.look b h.nb h.lb).trans h.hb, y0v h.la k.next, y0v h.lb k.next⟩
section
variable {σ τ : Type} (step : σ → Int → Ex → σ ⊕ τ) (M : Nat → Prop) (I : σ → HS → Prop) (J : τ → HS → Prop)
def zwb (H : HS) (o : σ ⊕ τ) (v : AV) (H' : HS) : Prop :=
 Keep M H H' ∧ match o with
  | .inl s => v = .bool true ∧ I s H'
  | .inr t => v = .bool false ∧ J t H'
variable {step M I J}
set_option maxHeartbeats 4000000 in
theorem visit102 {w0 : World} {N0 a sa b sb id sp : Nat} (hloc : Local M I) (hy : ∀ s d x H, I s H → CT Try.prog w0 N0 (.yield id sp) [.int .i64 d, .agg (cX x)] H (zwb M I J H (step s d x))) :
  ∀ (n : Nat) (x : Ex) (d : Int) (H : HS) (s : σ), SizeOf.sizeOf x ≤ n → Slim x → 0 ≤ d → d ≤ 17 → I s H → Cap M a sa b sb id sp H →
   FT Try.prog w0 N0 166 [.agg (cX x), .int .i64 d, .mptr a sa 0, .mptr b sb 0] H (zwb M I J H (zga step d x s)) := by
 intro n
 induction n with
 | zero => intro x d H s hn; cases x; simp at hn
 | succ n ih =>
  intro x d H s hn hw h0 h17 hI hC
  obtain ⟨op, ix, args⟩ := x
  refine zep env0_ok fn166 [(0, .agg (cX (.nd op ix args))), (1, .int .i64 d), (2, .mptr a sa 0), (3, .mptr b sb 0)] (by show 4 ≤ 32; decide) rfl ?_
  unfold ic166
  refine zsr rfl (zc1 rfl rfl (za1 rfl (onu (za8 (zsr rfl ?_)))))
  have hC1 := hC.keep (Keep.new M H (H.clk, .cells (cX (.nd op ix args))))
  refine zbk rfl hC1.ha hC1.la rfl ?_
  refine za1 rfl ?_
  refine zcu rfl zar (y0k _) rfl rfl ?_
  refine zsb _ rfl rfl (hy s d (.nd op ix args) ⟨_, _, _⟩ (hloc.new hI _ _)) (fun _ _ _ _ hm => absurd hm y0d) fun v H2 hF => ?_
  obtain ⟨hK, hF⟩ := hF
  have hK2 : Keep M H H2 := (Keep.new M H _).trans hK
  have hC2 := hC.keep hK2
  obtain ⟨hlen, hsl⟩ : args.length < 9223372036854775808 ∧ ∀ y ∈ args, Slim y := by cases hw with | nd h k => exact ⟨h, k⟩
  have hwx : zga step d (.nd op ix args) s = match step s d (.nd op ix args) with | .inr t => .inr t | .inl s' => zhc step d args s' := by rw [zga]; cases step s d (.nd op ix args) <;> rfl
  rw [hwx]
  cases hst : step s d (.nd op ix args) with
  | inr t =>
   rw [hst] at hF
   obtain ⟨rfl, hJ⟩ := hF
   refine zfr rfl rfl (onu (zb4 rfl (zsr rfl (za1 rfl (onu (zak (za4 ?_)))))))
   exact zaf ⟨.inr rfl, _, rfl, hK2, rfl, hJ⟩
  | inl s1 =>
   rw [hst] at hF
   obtain ⟨rfl, hI1⟩ := hF
   refine zfr rfl rfl (onu (zb8 rfl (zab (zaa (za8 (zsr rfl (za9 rfl ?_)))))))
   refine zbk rfl ((hK.look H.next (fun hm => Nat.lt_irrefl _ (hloc.lt s H hI _ hm)) (y0k _)).trans zar) (y0v (y0k _) hK.next) rfl ?_
   refine zbd rfl rfl (za1 rfl (onu (zac ?_)))
   refine zbu (fun m S => ∃ i s' H', m = args.length - i ∧ i ≤ args.length ∧ zhc step d args s1 = zhc step d (args.drop i) s' ∧ I s' H' ∧ Keep M H H' ∧
     S = st 32 [(1, .int .i64 d), (3, .mptr b sb 0), (15, .vs (cXs args)), (16, .int .i64 (cXs args).length), (17, .int .i64 (i : Nat))] H'.heap H'.next H'.clk) args.length
    (zan (.cons rfl (.cons rfl (.cons rfl (.cons rfl (.cons rfl .nil)))))) ⟨0, s1, H2, rfl, y0t _, rfl, hI1, hK2, rfl⟩ ?_
   rintro m S ⟨i, s', H', rfl, hi, hwl, hI', hK', rfl⟩
   have hC' := hC.keep hK'
   unfold zxa
   refine zsr rfl ?_
   refine zaq rfl rfl rfl (fun h1 => ?_) fun h1 => ?_
   ·have hlt : i < args.length := by
     have := of_decide_eq_true h1
     rw [zb0] at this
     omega
    have hd : args.drop i = args[i] :: args.drop (i + 1) := y0g hlt
    rw [hd] at hwl
    have hge := zf9 hlt
    have hmem : args[i] ∈ args := y0y hlt
    generalize args[i] = y at hwl hge hmem
    obtain ⟨yo, yi, ya⟩ := y
    refine onu (za8 (zb4 rfl (zab (zaa (za8 (zac (zsr rfl ?_)))))))
    refine zbh rfl rfl (y1b i) hge rfl ?_
    refine zam rfl rfl rfl rfl (zau ?_)
    refine zad rfl rfl rfl rfl zar rfl rfl ?_
    rw [zbr]
    refine onr rfl (za1 rfl ?_)
    refine zaq rfl rfl rfl (fun h2 => ?_) fun h2 => ?_
    ·have hd1 : d ≤ 16 := of_decide_eq_true h2
     refine za1 rfl (zbc rfl ?_)
     refine zbk rfl ((zaz hC'.lb).trans hC'.hb) (y1p hC'.lb) rfl ?_
     refine zbc rfl ?_
     refine zcu rfl zar (y0k _) rfl rfl ?_
     refine zbc rfl (za1 rfl (zbc rfl (zb6 (op := .add) rfl rfl rfl (zbc rfl ?_))))
     rw [show IntKind.wrap .i64 (d + 1) = d + 1 from wrap_small _ (by omega) (by omega)]
     refine zsb _ rfl rfl (zva (ih (.nd yo yi ya) (d + 1) ⟨_, _, _⟩ s' (by have := zuq (op := op) (ix := ix) hmem; omega) (hsl _ hmem) (by omega) (by omega) (hloc.new hI' _ _) (hC'.keep (Keep.new M H' _)))) (fun _ _ _ _ hm => absurd hm y0d) fun v H3 hF3 => ?_
     obtain ⟨hK3, hF3⟩ := hF3
     have hK4 : Keep M H H3 := hK'.trans ((Keep.new M H' _).trans hK3)
     cases hwk : zga step (d + 1) (.nd yo yi ya) s' with
     | inr t =>
      rw [hwk] at hF3
      obtain ⟨rfl, hJ⟩ := hF3
      refine zbc rfl (zfr rfl rfl (zat rfl rfl (onu (zb4 rfl (zsr rfl (za1 rfl (onu (zak (zag (za4 ?_))))))))))
      refine zbb ?_
      refine zag (za4 ?_)
      refine zaf ⟨.inr rfl, _, rfl, hK4, ?_⟩
      simp only [hwl, zhc, if_pos hd1, hwk]
      exact ⟨trivial, hJ⟩
     | inl s2 =>
      rw [hwk] at hF3
      obtain ⟨rfl, hI2⟩ := hF3
      refine zbc rfl (zfr rfl rfl (zat rfl rfl (onu (zb8 rfl (zab (zb7 (zaa (za5 rfl (zb6 (op := .add) rfl rfl rfl (za1 rfl (zai ?_)))))))))))
      rw [zas i (by omega)]
      exact zav (show args.length - (i + 1) < args.length - i by omega) (zan (.cons rfl (.cons rfl (.cons rfl (.cons rfl (.cons rfl .nil)))))) ⟨i + 1, s2, H3, rfl, hlt, by rw [hwl]; simp only [zhc, if_pos hd1, hwk], hI2, hK4, rfl⟩
    ·have hd1 : ¬ d ≤ 16 := of_decide_eq_false h2
     repeat (first | refine za5 rfl ?_ | refine zai ?_ | refine zaa ?_ | refine zb7 ?_ | refine zab ?_ | refine zb8 rfl ?_ | refine zbz rfl rfl ?_ | refine za1 rfl ?_ | refine zal rfl rfl ?_ | refine zb6 (op := .add) rfl rfl rfl ?_)
     rw [zas i (by omega)]
     exact zav (show args.length - (i + 1) < args.length - i by omega) (zan (.cons rfl (.cons rfl (.cons rfl (.cons rfl (.cons rfl .nil)))))) ⟨i + 1, s', ⟨_, _, _⟩, rfl, hlt, by rw [hwl]; simp only [zhc, if_neg hd1], hloc.new hI' _ _, hK'.trans (Keep.new M H' _), rfl⟩
   ·have hi2 : i = args.length := by
     have := of_decide_eq_false h1
     rw [zb0] at this
     omega
    refine onu (za8 (zb8 rfl (zbm (zao ?_))))
    refine zcn ?_
    refine zbl (zaa (zsr rfl (za1 rfl (onu (zak ?_)))))
    refine zaf ⟨.inr rfl, _, rfl, hK', ?_⟩
    subst hi2
    simp only [hwl, y0s, zhc]
    exact ⟨trivial, hI'⟩
end
-- pneumatic/boolexp.preorder
def ic154 : IC := .seq (.region [oM 1 (.box (.t 0)),
  oM 2 (.mov (.c (.nilf)))] none)
 (.seq (.region [oM 3 (.mkfn 165 [] [(.t 1)]),
  oT 2 3] none)
 (.ret))
theorem fn154 : env0.fn 154 = some ⟨4, ic154, [.t 2]⟩ := by kernel_rfl
theorem zn1 (x : Ex) : PF Try.prog 154 [.agg (cX x)] (.fn 165 [] [.vptr (cX x)]) := by
 obtain ⟨op, ix, args⟩ := x
 refine zb1 env0_ok fn154 [(0, .agg (cX (.nd op ix args)))] (by show 1 ≤ 4; decide) rfl fun w0 N0 => ?_
 unfold ic154
 refine zsr rfl (zc1 rfl rfl (za1 rfl (onr rfl (zfk rfl rfl (za1 rfl (onu (zak ?_)))))))
 exact zaf ⟨.inr rfl, _, rfl, rfl⟩
-- pneumatic/boolexp.preorder$1
def ic165 : IC := .seq (.region [oM 2 (.box (.t 0))] none)
 (.seq (.region [oM 3 (.alloc [.nilf])] none)
 (.seq (.region [oM 4 (.mkfn 166 [] [(.t 2), (.t 3)]),
  ⟨none, .store 1 (.t 3) (.t 4), none⟩] none)
 (.region [oN 5 3,
  oL 6 3 1,
  oM 7 (.call (.t 5) [(.t 6), (.c (.int .i64 1))])] none)))
theorem fn165 : env0.fn 165 = some ⟨8, ic165, []⟩ := by kernel_rfl
section
variable {σ τ : Type} {step : σ → Int → Ex → σ ⊕ τ} {M : Nat → Prop} {I : σ → HS → Prop} {J : τ → HS → Prop}
theorem zuc {w0 : World} {N0 id sp : Nat} (hloc : Local M I) (hy : ∀ s d x H, I s H → CT Try.prog w0 N0 (.yield id sp) [.int .i64 d, .agg (cX x)] H (zwb M I J H (step s d x))) (x : Ex) (H : HS) (s : σ) (hx : Slim x) (hI : I s H) :
  FT Try.prog w0 N0 165 [.yield id sp, .vptr (cX x)] H fun _ H' => Keep M H H' ∧ match zga step 1 x s with
   | .inl s' => I s' H'
   | .inr t => J t H' := by
 refine zep env0_ok fn165 [(0, .yield id sp), (1, .vptr (cX x))] (by show 2 ≤ 8; decide) rfl ?_
 obtain ⟨op, ix, args⟩ := x
 unfold ic165
 refine zsr rfl (zc1 rfl rfl (onr rfl (zau (onr rfl (zfk rfl rfl ?_)))))
 refine zad rfl rfl rfl rfl zar rfl rfl ?_
 rw [zbr]
 refine onR rfl ?_
 refine zbk rfl zar (y0k _) rfl ?_
 refine zam rfl rfl rfl rfl ?_
 have hlt := hloc.lt s H hI
 have hk0 : Keep M H ⟨(H.next + 1, H.clk + 1, .cells (setAt 0 [.nilf] [.fn 166 [] [.mptr H.next H.clk 0, .mptr (H.next + 1) (H.clk + 1) 0]])) :: (H.next, H.clk, .cells [.yield id sp]) :: H.heap, H.next + 1 + 1, H.clk + 1 + 1⟩ := (Keep.new M H (H.clk, .cells [.yield id sp])).trans (Keep.new M ⟨(H.next, H.clk, .cells [.yield id sp]) :: H.heap, H.next + 1, H.clk + 1⟩ (H.clk + 1, _))
 refine zsb _ rfl rfl (zva (visit102 hloc hy (SizeOf.sizeOf (Ex.nd op ix args)) (.nd op ix args) 1 ⟨_, _, _⟩ s (y0c _) hx (by decide) (by decide) (hloc.of s H ⟨_, _, _⟩ hI hk0.next fun i hm => (zaz (y1p (hlt i hm))).trans (zaz (hlt i hm)))
  ⟨fun hm => Nat.lt_irrefl _ (hlt _ hm), fun hm => Nat.not_succ_lt_self (hlt _ hm), (zaz (y0k _)).trans zar, zar, y1p (y0k _), y0k _⟩)) (fun _ _ _ _ hm => absurd hm y0d) fun v H2 hF => ?_
 obtain ⟨hK, hF⟩ := hF
 refine zai ?_
 refine zaf ⟨.inl rfl, _, rfl, hk0.trans hK, ?_⟩
 cases hw : zga step 1 (.nd op ix args) s with
 | inl s' => rw [hw] at hF; exact hF.2
 | inr t => rw [hw] at hF; exact hF.2
end
def zbs : IC → List (Code × Code)
 | .seq a b => zbs a ++ zbs b
 | .cond _ a b => zbs a ++ zbs b
 | .block _ b => zbs b
 | .loop b => zbs b
 | .rangeFunc _ _ ca cb _ _ => [(ca, cb)]
 | _ => []
noncomputable def zpj : Code := match env0.fn 153 with
 | some i => ((zbs i.ic).headD (.skip, .skip)).1
 | none => .skip
noncomputable def zpl : Code := match env0.fn 153 with
 | some i => ((zbs i.ic).headD (.skip, .skip)).2
 | none => .skip
def zwv : IC := .region [oT 7 10] none
def zrd : IC := .block 1 (.seq (.region [oN 12 5,
  oM 13 (.bin .add (.t 12) (.c (.int .i64 1))),
  ⟨none, .store 1 (.t 5) (.t 13), none⟩] none)
 (.seq (.region [oN 14 6,
  oT 15 7,
  oM 16 (.minmax true [(.t 14), (.t 15)]),
  ⟨none, .store 1 (.t 6) (.t 16), none⟩] none)
 (.seq (.region [oN 17 5,
  oM 18 (.bin .gtr (.t 17) (.c (.int .i64 256))),
  oT 19 18,
  ⟨(some 20), .mov (.t 7), some (19, false)⟩,
  ⟨(some 21), .bin .gtr (.t 20) (.c (.int .i64 16)), some (19, false)⟩,
  oM 22 (.pick (.t 19) (.c (.bool true)) (.t 21))] none)
 (.cond (.t 22) (.seq (.region [⟨none, .store 1 (.t 2) (.c (.int .i64 0)), none⟩,
  ⟨none, .store 1 (.t 3) (.c (.int .i64 0)), none⟩,
  ⟨none, .store 1 (.t 4) (.c (.bool false)), none⟩] none)
 (.ret))
 (.skip)))))
-- pneumatic/boolexp.measure
noncomputable def ic153 : IC := .seq (.region [oM 1 (.box (.t 0)),
  oM 2 (.alloc [.int .i64 0]),
  oM 3 (.alloc [.int .i64 0]),
  oM 4 (.alloc [.bool false])] none)
 (.seq (.region [oM 5 (.alloc [.int .i64 0]),
  oM 6 (.alloc [.int .i64 0]),
  ⟨none, .store 1 (.t 5) (.c (.int .i64 0)), none⟩,
  ⟨none, .store 1 (.t 6) (.c (.int .i64 0)), none⟩] none)
 (.seq (.seq (.region [oL 8 3 1,
  oM 9 (.call (.c (.fn 154 [] [])) [(.t 8)])] none)
 (.block 0 (.rangeFunc (.t 9) [10, 11] zpj zpl zwv zrd)))
 (.seq (.region [oN 23 5,
  oN 24 6,
  ⟨none, .store 1 (.t 2) (.t 23), none⟩,
  ⟨none, .store 1 (.t 3) (.t 24), none⟩,
  ⟨none, .store 1 (.t 4) (.c (.bool true)), none⟩] (some [[], [], [0, 0], [1, 2, 0, 1, 2], [3, 0, 1, 2, 3]]))
 (.ret))))
theorem fn153 : env0.fn 153 = some ⟨25, ic153, [.cell 2 none, .cell 3 none, .cell 4 none]⟩ := by kernel_rfl
def deepM (m d : Int) : Int := if d > m then d else m
def zir (s : Int × Int) (d : Int) (_ : Ex) : (Int × Int) ⊕ Unit := if s.1 + 1 > 256 ∨ d > 16 then .inr () else .inl (s.1 + 1, deepM s.2 d)
structure I86 (ltm : List (Nat × AV)) (s : Int × Int) (H : HS) : Prop where
 nx : 8 ≤ H.next
 n0 : 0 ≤ s.1 ∧ s.1 ≤ 256
 h7 : Am.look 7 H.heap = some (7, .loop .ready none 25 (zcz ltm) [10, 11] zpj zpl (6, 6))
 h6 : Am.look 6 H.heap = some (6, .deferred)
 h4 : Am.look 4 H.heap = some (4, .cells [.int .i64 s.1])
 h5 : Am.look 5 H.heap = some (5, .cells [.int .i64 s.2])
 h1 : Am.look 1 H.heap = some (1, .cells [.int .i64 0])
 h2 : Am.look 2 H.heap = some (2, .cells [.int .i64 0])
 h3 : Am.look 3 H.heap = some (3, .cells [.bool false])
structure J86 (_ : Unit) (H : HS) : Prop where
 nx : 8 ≤ H.next
 h7 : ∃ tm, Am.look 7 H.heap = some (7, .loop .done (some .ret) 25 tm [10, 11] zpj zpl (6, 6))
 h6 : Am.look 6 H.heap = some (6, .deferred)
 h1 : Am.look 1 H.heap = some (1, .cells [.int .i64 0])
 h2 : Am.look 2 H.heap = some (2, .cells [.int .i64 0])
 h3 : Am.look 3 H.heap = some (3, .cells [.bool false])
theorem local86 (ltm : List (Nat × AV)) : Local (fun i => i < 8) (I86 ltm) :=
 ⟨fun s H h i hi => y0v hi h.nx, fun s H H' h hn hl =>
  ⟨y0q h.nx hn, h.n0, (hl 7 (by decide)).trans h.h7, (hl 6 (by decide)).trans h.h6, (hl 4 (by decide)).trans h.h4, (hl 5 (by decide)).trans h.h5, (hl 1 (by decide)).trans h.h1, (hl 2 (by decide)).trans h.h2, (hl 3 (by decide)).trans h.h3⟩⟩
def l86 (x : Ex) : List (Nat × AV) := [(9, .fn 165 [] [.vptr (cX x)]), (8, .agg (cX x)), (6, .mptr 5 5 0), (5, .mptr 4 4 0), (4, .mptr 3 3 0), (3, .mptr 2 2 0), (2, .mptr 1 1 0), (1, .mptr 0 0 0), (0, .agg (cX x))]
set_option maxHeartbeats 2000000 in
theorem yield86 {w0 : World} {N0 : Nat} (y : Ex) (ha : Com Try.prog zpj zwv) (hb : Com Try.prog zpl zrd) (s : Int × Int) (d : Int) (x : Ex) (H : HS) (h : I86 (l86 y) s H) :
  CT Try.prog w0 N0 (.yield 7 7) [.int .i64 d, .agg (cX x)] H (zwb (fun i => i < 8) (I86 (l86 y)) J86 H (zir s d x)) := by
 obtain ⟨n, m⟩ := s
 obtain ⟨nx, n0, h7, h6, h4, h5, h1, h2, h3⟩ := h
 simp only at n0 h4 h5
 have e1 : IntKind.wrap .i64 (n + 1) = n + 1 := wrap_small _ (by omega) (by omega)
 refine zi1 (l0 := (11, .agg (cX x)) :: (10, .int .i64 d) :: l86 y) h7 ha hb rfl (by decide) rfl ?_
 unfold zwv
 refine za5 rfl (za1 rfl (zai ?_))
 refine zaf ⟨rfl, _, rfl, ?_⟩
 unfold zrd
 refine zac (zsr rfl ?_)
 refine zbk (sp := 4) (cs := [.int .i64 n]) rfl (by rw [za0, if_neg (by decide)]; exact h4) (by omega) rfl ?_
 refine zb6 (op := .add) rfl rfl rfl ?_
 refine zad (sp := 4) (cs := [.int .i64 n]) rfl rfl rfl rfl (by rw [za0, if_neg (by decide)]; exact h4) rfl rfl ?_
 refine onr rfl ?_
 refine zbk (sp := 5) (cs := [.int .i64 m]) rfl (by rw [za0, if_neg (by decide), za0, if_neg (by decide)]; exact h5) (by omega) rfl ?_
 refine za1 rfl (zzh rfl rfl rfl ?_)
 refine zad (sp := 5) (cs := [.int .i64 m]) rfl rfl rfl rfl (by rw [za0, if_neg (by decide), za0, if_neg (by decide)]; exact h5) rfl rfl ?_
 refine onr rfl ?_
 refine zbk (sp := 4) (cs := [.int .i64 (IntKind.wrap .i64 (n + 1))]) rfl (by rw [za0, if_neg (by decide), za0, if_pos rfl]; rfl) (by omega) rfl ?_
 rw [e1]
 have fin : ∀ l', ¬ (n + 1 > 256 ∨ d > 16) → zsu 7 7 (zwb (fun i => i < 8) (I86 (l86 y)) J86 H (zir (n, m) d x)) .normal
   (st 25 l' (zax 5 (5, .cells [.int .i64 (deepM m d)]) (zax 4 (4, .cells [.int .i64 (n + 1)]) (zax 7 (7, .loop .busy none 25 (zcz (l86 y)) [10, 11] zpj zpl (6, 6)) H.heap))) H.next H.clk) := fun l' hn => by
  refine ⟨25, zcz (l86 y), [10, 11], zpj, zpl, (6, 6), ?_, none, rfl, ⟨y0c _, y0c _, fun i hi _ => ?_⟩, ?_⟩
  ·show Am.look 7 (zax 5 _ (zax 4 _ (zax 7 _ H.heap))) = _
   rw [za0, if_neg (by decide), za0, if_neg (by decide), za0, if_pos rfl]
  ·show Am.look i (zax 7 _ (zax 5 _ (zax 4 _ (zax 7 _ H.heap)))) = _
   rw [za0, if_neg (by omega), za0, if_neg (by omega), za0, if_neg (by omega), za0, if_neg (by omega)]
  ·unfold zir
   rw [if_neg hn]
   refine ⟨rfl, nx, by simp only; omega, ?_, ?_, ?_, ?_, ?_, ?_, ?_⟩
   ·show Am.look 7 (zax 7 _ _) = _
    rw [za0, if_pos rfl]; rfl
   all_goals
    show Am.look _ (zax 7 _ (zax 5 _ (zax 4 _ (zax 7 _ H.heap)))) = _
    rw [za0, if_neg (by decide)]
   ·rw [za0, if_neg (by decide), za0, if_neg (by decide), za0, if_neg (by decide)]; exact h6
   ·rw [za0, if_neg (by decide), za0, if_pos rfl]
   ·rw [za0, if_pos rfl]
   ·rw [za0, if_neg (by decide), za0, if_neg (by decide), za0, if_neg (by decide)]; exact h1
   ·rw [za0, if_neg (by decide), za0, if_neg (by decide), za0, if_neg (by decide)]; exact h2
   ·rw [za0, if_neg (by decide), za0, if_neg (by decide), za0, if_neg (by decide)]; exact h3
 have stop : ∀ l', (n + 1 > 256 ∨ d > 16) → zsu 7 7 (zwb (fun i => i < 8) (I86 (l86 y)) J86 H (zir (n, m) d x)) .ret
   (st 25 l' (zax 3 (3, .cells [.bool false]) (zax 2 (2, .cells [.int .i64 0]) (zax 1 (1, .cells [.int .i64 0]) (zax 5 (5, .cells [.int .i64 (deepM m d)]) (zax 4 (4, .cells [.int .i64 (n + 1)]) (zax 7 (7, .loop .busy none 25 (zcz (l86 y)) [10, 11] zpj zpl (6, 6)) H.heap)))))) H.next H.clk) := fun l' hn => by
  refine ⟨25, zcz (l86 y), [10, 11], zpj, zpl, (6, 6), ?_, some .ret, rfl, ⟨y0c _, y0c _, fun i hi _ => ?_⟩, ?_⟩
  ·show Am.look 7 (zax 3 _ (zax 2 _ (zax 1 _ (zax 5 _ (zax 4 _ (zax 7 _ H.heap)))))) = _
   rw [za0, if_neg (by decide), za0, if_neg (by decide), za0, if_neg (by decide), za0, if_neg (by decide), za0, if_neg (by decide), za0, if_pos rfl]
  ·show Am.look i (zax 7 _ (zax 3 _ (zax 2 _ (zax 1 _ (zax 5 _ (zax 4 _ (zax 7 _ H.heap))))))) = _
   rw [za0, if_neg (by omega), za0, if_neg (by omega), za0, if_neg (by omega), za0, if_neg (by omega), za0, if_neg (by omega), za0, if_neg (by omega), za0, if_neg (by omega)]
  ·unfold zir
   rw [if_pos hn]
   refine ⟨rfl, nx, ⟨zcz (l86 y), ?_⟩, ?_, ?_, ?_, ?_⟩
   ·show Am.look 7 (zax 7 _ _) = _
    rw [za0, if_pos rfl]; rfl
   all_goals
    show Am.look _ (zax 7 _ (zax 3 _ (zax 2 _ (zax 1 _ (zax 5 _ (zax 4 _ (zax 7 _ H.heap))))))) = _
    rw [za0, if_neg (by decide)]
   ·rw [za0, if_neg (by decide), za0, if_neg (by decide), za0, if_neg (by decide), za0, if_neg (by decide), za0, if_neg (by decide), za0, if_neg (by decide)]; exact h6
   ·rw [za0, if_neg (by decide), za0, if_neg (by decide), za0, if_pos rfl]
   ·rw [za0, if_neg (by decide), za0, if_pos rfl]
   ·rw [za0, if_pos rfl]
 refine zaq rfl rfl rfl (fun hg => ?_) fun hg => ?_
 ·have hg := of_decide_eq_true hg
  refine za1 rfl (zbz rfl rfl (zbz rfl rfl (zat rfl rfl (onu (zb4 rfl (zsr rfl ?_))))))
  refine zad (sp := 1) (cs := [.int .i64 0]) rfl rfl rfl rfl (by rw [za0, if_neg (by decide), za0, if_neg (by decide), za0, if_neg (by decide)]; exact h1) rfl rfl ?_
  refine zad (sp := 2) (cs := [.int .i64 0]) rfl rfl rfl rfl (by rw [za0, if_neg (by decide), za0, if_neg (by decide), za0, if_neg (by decide), za0, if_neg (by decide)]; exact h2) rfl rfl ?_
  refine zad (sp := 3) (cs := [.bool false]) rfl rfl rfl rfl (by rw [za0, if_neg (by decide), za0, if_neg (by decide), za0, if_neg (by decide), za0, if_neg (by decide), za0, if_neg (by decide)]; exact h3) rfl rfl ?_
  refine onu (zak (zag ?_))
  exact zaf (stop _ (.inl hg))
 ·have hg := of_decide_eq_false hg
  refine za1 rfl (zbc rfl (za1 rfl (zbc rfl ?_)))
  refine zaq rfl rfl rfl (fun hd => ?_) fun hd => ?_
  ·have hd := of_decide_eq_true hd
   refine zal rfl rfl (onu (zb4 rfl (zsr rfl ?_)))
   refine zad (sp := 1) (cs := [.int .i64 0]) rfl rfl rfl rfl (by rw [za0, if_neg (by decide), za0, if_neg (by decide), za0, if_neg (by decide)]; exact h1) rfl rfl ?_
   refine zad (sp := 2) (cs := [.int .i64 0]) rfl rfl rfl rfl (by rw [za0, if_neg (by decide), za0, if_neg (by decide), za0, if_neg (by decide), za0, if_neg (by decide)]; exact h2) rfl rfl ?_
   refine zad (sp := 3) (cs := [.bool false]) rfl rfl rfl rfl (by rw [za0, if_neg (by decide), za0, if_neg (by decide), za0, if_neg (by decide), za0, if_neg (by decide), za0, if_neg (by decide)]; exact h3) rfl rfl ?_
   refine onu (zak (zag ?_))
   exact zaf (stop _ (.inr hd))
  ·have hd := of_decide_eq_false hd
   refine zal rfl rfl (onu (zb8 rfl (zab (zb7 ?_))))
   exact zaf (fin _ fun hx => hx.elim hg hd)
theorem zc4 {S : AS} {id sp : Nat} {cs : List AV} (h : Am.look id S.heap = some (sp, .cells cs)) (hn : id < S.next) : S.deref (.mptr id sp 0) = some cs := by
 simp only [AS.deref, h]
 rw [if_pos ⟨trivial, hn⟩, y14]
theorem zn4 {S : AS} {a b c : Nat} {pa pb pc va vb vc : AV} {ra rb rc : List AV} (h1 : S.get a = some pa) (d1 : S.deref pa = some (va :: ra)) (h2 : S.get b = some pb) (d2 : S.deref pb = some (vb :: rb)) (h3 : S.get c = some pc) (d3 : S.deref pc = some (vc :: rc)) :
  S.res [.cell a none, .cell b none, .cell c none] = some (.tup [va, vb, vc]) := by
 simp [AS.res, AS.resL, zs7, h1, h2, h3, d1, d2, d3]
def zom (x : Ex) : AV := match zga zir 1 x (0, 0) with
 | .inl (n, m) => .tup [.int .i64 n, .int .i64 m, .bool true]
 | .inr _ => .tup [.int .i64 0, .int .i64 0, .bool false]
set_option maxHeartbeats 2000000 in
theorem zz8 (x : Ex) (hs : Slim x) : PF Try.prog 153 [.agg (cX x)] (zom x) := by
 obtain ⟨op, ix, args⟩ := x
 refine zb1 env0_ok fn153 [(0, .agg (cX (.nd op ix args)))] (by show 1 ≤ 25; decide) rfl fun w0 N0 => ?_
 unfold ic153
 repeat (first | refine za8 ?_ | refine za5 rfl ?_ | refine zai ?_ | refine zaa ?_ | refine zam rfl rfl rfl rfl ?_ | refine zad rfl rfl rfl rfl rfl rfl rfl ?_ | refine zau ?_ | refine zc1 rfl rfl ?_)
 refine zap rfl rfl (zn1 (.nd op ix args)) noC ?_
 refine onu (zac ?_)
 refine zgu (.inl rfl) rfl fun ha hb => (zuc (local86 (l86 (.nd op ix args))) (fun s d x H h => yield86 (.nd op ix args) ha hb s d x H h) (.nd op ix args) ⟨_, _, _⟩ (0, 0) hs ⟨y0c _, ⟨y2i _, by decide⟩, rfl, rfl, rfl, rfl, rfl, rfl, rfl⟩).mono fun v H2 hF => ?_
 obtain ⟨hK, hF⟩ := hF
 unfold zom
 cases hwk : zga zir 1 (.nd op ix args) (0, 0) with
 | inl s =>
  rw [hwk] at hF
  obtain ⟨n, m⟩ := s
  obtain ⟨nx, n0, h7, h6, h4, h5, h1, h2, h3⟩ := hF
  simp only at n0 h4 h5
  refine ⟨_, _, .normal, _, _, _, _, _, _, h7, by simp, rfl, fun z hz => ?_, ?_⟩
  ·obtain rfl := y0e.1 hz
   rw [za3, if_neg (by decide)]; exact h6
  ·refine zb7 (zaa (za8 ?_))
   refine z_drawn2 env0_ok [] (fun _ hx => absurd hx y0d) (fun _ => false) (fun i => i == 4 || i == 5) (fun i => i == 1 || i == 2 || i == 3) (fun i h1 h2 => by simp at h1 h2; omega) rfl rfl rfl ?_
   refine zbk (sp := 4) (cs := [.int .i64 n]) rfl (by rw [za3, if_neg (by decide)]; exact h4) (by omega) rfl ?_
   refine zbk (sp := 5) (cs := [.int .i64 m]) rfl (by rw [za3, if_neg (by decide)]; exact h5) (by omega) rfl ?_
   refine zad (sp := 1) (cs := [.int .i64 0]) rfl rfl rfl rfl (by rw [za3, if_neg (by decide)]; exact h1) rfl rfl ?_
   refine zad (sp := 2) (cs := [.int .i64 0]) rfl rfl rfl rfl (by rw [za0, if_neg (by decide), za3, if_neg (by decide)]; exact h2) rfl rfl ?_
   refine zad (sp := 3) (cs := [.bool false]) rfl rfl rfl rfl (by rw [za0, if_neg (by decide), za0, if_neg (by decide), za3, if_neg (by decide)]; exact h3) rfl rfl ?_
   refine onu (zak ?_)
   refine zaf ⟨.inr rfl, .tup [.int .i64 n, .int .i64 m, .bool true], zn4 (zd3 2) (zc4 (sp := 1) (cs := [.int .i64 n]) ?_ ?_) (zd3 3) (zc4 (sp := 2) (cs := [.int .i64 m]) ?_ ?_) (zd3 4) (zc4 (sp := 3) (cs := [.bool true]) ?_ ?_), rfl⟩
   ·show Am.look 1 (zbe 6 (zax 3 _ (zax 2 _ (zax 1 _ (zbe 7 H2.heap))))) = _
    rw [za3, if_neg (by decide), za0, if_neg (by decide), za0, if_neg (by decide), za0, if_pos rfl]; rfl
   ·show 1 < H2.next; omega
   ·show Am.look 2 (zbe 6 (zax 3 _ (zax 2 _ (zax 1 _ (zbe 7 H2.heap))))) = _
    rw [za3, if_neg (by decide), za0, if_neg (by decide), za0, if_pos rfl]; rfl
   ·show 2 < H2.next; omega
   ·show Am.look 3 (zbe 6 (zax 3 _ (zax 2 _ (zax 1 _ (zbe 7 H2.heap))))) = _
    rw [za3, if_neg (by decide), za0, if_pos rfl]; rfl
   ·show 3 < H2.next; omega
 | inr u =>
  rw [hwk] at hF
  obtain ⟨nx, ⟨tm, h7⟩, h6, h1, h2, h3⟩ := hF
  refine ⟨_, _, .ret, _, _, _, _, _, _, h7, by simp, rfl, fun z hz => ?_, ?_⟩
  ·obtain rfl := y0e.1 hz
   rw [za3, if_neg (by decide)]; exact h6
  ·refine zag (za4 ?_)
   refine zaf ⟨.inr rfl, .tup [.int .i64 0, .int .i64 0, .bool false], zn4 (zd3 2) (zc4 (sp := 1) (cs := [.int .i64 0]) ?_ ?_) (zd3 3) (zc4 (sp := 2) (cs := [.int .i64 0]) ?_ ?_) (zd3 4) (zc4 (sp := 3) (cs := [.bool false]) ?_ ?_), rfl⟩
   ·show Am.look 1 (zbe 6 (zbe 7 H2.heap)) = _
    rw [za3, if_neg (by decide), za3, if_neg (by decide)]; exact h1
   ·show 1 < H2.next; omega
   ·show Am.look 2 (zbe 6 (zbe 7 H2.heap)) = _
    rw [za3, if_neg (by decide), za3, if_neg (by decide)]; exact h2
   ·show 2 < H2.next; omega
   ·show Am.look 3 (zbe 6 (zbe 7 H2.heap)) = _
    rw [za3, if_neg (by decide), za3, if_neg (by decide)]; exact h3
   ·show 3 < H2.next; omega
def zg3 : AV := .agg [.int .i64 0, .int .i64 0, .nilf, .int .i64 0, .int .i64 0, .nilf, .int .i64 1, .int .i64 1, .fn 174 [] [.vptr [.bool false]], .int .i64 2, .int .i64 256, .fn 174 [] [.vptr [.bool true]], .int .i64 2, .int .i64 256, .fn 172 [] []]
def tabS : Tab := [
 (167, [
  ([], .agg [.int .i64 0, .int .i64 0, .nilf, .int .i64 0, .int .i64 0, .nilf, .int .i64 1, .int .i64 1, .fn 174 [] [.vptr [.bool false]], .int .i64 2, .int .i64 256, .fn 174 [] [.vptr [.bool true]], .int .i64 2, .int .i64 256, .fn 172 [] []])])]
theorem tabS_ok : TabOk Try.prog tabS := TabOk.of_run (env0_ok.tab TabOk.nil (pure := [])) (n := 60) (by kernel_rfl)
theorem ziq : PF Try.prog 167 [] zg3 := tabS_ok _ (y05 ..) _ (y05 ..)
theorem zng (n : Int) (hn : 0 ≤ n ∧ n ≤ 256) : IntKind.i64.wrap (n - 1) = n - 1 := by
 by_cases h : n = 0
 ·subst h; decide
 ·exact wrap_small _ (by omega) (by omega)
def zbg (op : Int) : Int := if op = 2 then 1 else if op = 3 ∨ op = 4 then 2 else 0
def zcd (op : Int) : Int := if op = 2 then 1 else if op = 3 ∨ op = 4 then 256 else 0
def zcf (op n : Int) : Int := if op = 0 then 1 else if op = 1 then n - 1 else 0
def zbv (op ix k n : Int) : Int :=
 if op < 0 ∨ op ≥ 5 then 1 else if k < zbg op ∨ k > zcd op then 3 else if ix < 0 ∨ ix > zcf op n then 2 else 0
-- pneumatic/boolexp.node
def ic155 : IC := .seq (.region [oM 2 (.box (.t 0)),
  oM 4 (.mov (.c (.int .i64 0)))] none)
 (.seq (.seq (.region [oF 7 0 2,
  oN 8 7,
  oM 9 (.bin .lss (.t 8) (.c (.int .i64 0))),
  oT 10 9,
  ⟨(some 11), .faddr 0 (.t 2), some (10, false)⟩,
  ⟨(some 12), .load none (.t 11), some (10, false)⟩,
  ⟨(some 13), .bin .geq (.t 12) (.c (.int .i64 5)), some (10, false)⟩,
  oM 14 (.pick (.t 10) (.c (.bool true)) (.t 13))] none)
 (.cond (.t 14) (.seq (.region [oM 4 (.mov (.c (.int .i64 1)))] none)
 (.ret))
 (.skip)))
 (.seq (.region [oM 15 (.call (.c (.fn 167 [] [])) []),
  oF 16 0 2,
  oN 17 16,
  oM 18 (.idxagg 5 3 true (.t 15) (.t 17)),
  oM 5 (.alloc [.int .i64 0, .int .i64 0, .nilf]),
  ⟨none, .store 3 (.t 5) (.t 18), none⟩] (some [[], [], [1], [0, 2], [], [4, 3, 0, 0, 1, 2, 3, 4]]))
 (.seq (.seq (.region [oF 19 2 2,
  oN 20 19,
  oM 21 (.len false (.t 20)),
  oF 22 0 5,
  oN 23 22,
  oM 24 (.bin .lss (.t 21) (.t 23)),
  oT 25 24,
  ⟨(some 26), .faddr 2 (.t 2), some (25, false)⟩,
  ⟨(some 27), .load none (.t 26), some (25, false)⟩,
  ⟨(some 28), .len false (.t 27), some (25, false)⟩,
  ⟨(some 29), .faddr 1 (.t 5), some (25, false)⟩,
  ⟨(some 30), .load none (.t 29), some (25, false)⟩,
  ⟨(some 31), .bin .gtr (.t 28) (.t 30), some (25, false)⟩,
  oM 32 (.pick (.t 25) (.c (.bool true)) (.t 31))] none)
 (.cond (.t 32) (.seq (.region [oM 4 (.mov (.c (.int .i64 3)))] none)
 (.ret))
 (.skip)))
 (.seq (.region [oM 6 (.mov (.c (.int .i64 0)))] none)
 (.seq (.seq (.region [oF 33 0 2,
  oN 34 33] none)
 (.block 0 (.seq (.region [oM 36 (.bin .eql (.t 34) (.c (.int .i64 0))),
  oT 35 36] none)
 (.cond (.t 35) (.region [oM 6 (.mov (.c (.int .i64 1)))] none)
 (.seq (.region [oM 38 (.bin .eql (.t 34) (.c (.int .i64 1))),
  oT 37 38] none)
 (.cond (.t 37) (.region [oT 39 1,
  oM 40 (.bin .sub (.t 39) (.c (.int .i64 1))),
  oT 6 40] none)
 (.skip)))))))
 (.seq (.seq (.region [oF 41 1 2,
  oN 42 41,
  oM 43 (.bin .lss (.t 42) (.c (.int .i64 0))),
  oT 44 43,
  ⟨(some 45), .faddr 1 (.t 2), some (44, false)⟩,
  ⟨(some 46), .load none (.t 45), some (44, false)⟩,
  ⟨(some 47), .mov (.t 6), some (44, false)⟩,
  ⟨(some 48), .bin .gtr (.t 46) (.t 47), some (44, false)⟩,
  oM 49 (.pick (.t 44) (.c (.bool true)) (.t 48))] none)
 (.cond (.t 49) (.seq (.region [oM 4 (.mov (.c (.int .i64 2)))] none)
 (.ret))
 (.skip)))
 (.seq (.region [oM 4 (.mov (.c (.int .i64 0)))] none)
 (.ret))))))))
theorem fn155 : env0.fn 155 = some ⟨50, ic155, [.t 4]⟩ := by kernel_rfl
set_option maxHeartbeats 4000000 in
theorem node88 (op ix n : Int) (args : List Ex) (hn : 0 ≤ n ∧ n ≤ 256) : PF Try.prog 155 [.agg (cX (.nd op ix args)), .int .i64 n] (.int .i64 (zbv op ix args.length n)) := by
 refine zb1 env0_ok fn155 [(0, .agg (cX (.nd op ix args))), (1, .int .i64 n)] (by show 2 ≤ 50; decide) rfl fun w0 N0 => ?_
 unfold ic155
 refine zsr rfl (zc1 rfl rfl (za1 rfl (onu (za8 (zsr rfl (za9 rfl (za7 rfl rfl ?_)))))))
 refine zaq rfl rfl rfl (fun h1 => ?_) fun h1 => ?_
 ·have h1 := of_decide_eq_true h1
  refine za1 rfl (zbz rfl rfl (zbz rfl rfl (zbz rfl rfl (zat rfl rfl (onu (zb4 rfl (zsr rfl (za1 rfl (onu (zak ?_))))))))))
  refine za4 ?_
  refine zaf ⟨.inr rfl, _, rfl, ?_⟩
  unfold zbv
  rw [if_pos (.inl h1)]
  rfl
 have h1 := of_decide_eq_false h1
 refine za1 rfl (zbc rfl (za9 rfl (zbc rfl (za7 rfl rfl (zbc rfl ?_)))))
 refine zaq rfl rfl rfl (fun h2 => ?_) fun h2 => ?_
 ·have h2 := of_decide_eq_true h2
  refine zal rfl rfl (onu (zb4 rfl (zsr rfl (za1 rfl (onu (zak (za4 ?_)))))))
  refine zaf ⟨.inr rfl, _, rfl, ?_⟩
  unfold zbv
  rw [if_pos (.inr h2)]
  rfl
 have h2 := of_decide_eq_false h2
 refine zal rfl rfl (onu (zb8 rfl (zab (zaa (za8 ?_)))))
 refine zg4 env0_ok [(167, [], zg3)] (fun x hx => by obtain rfl := y0e.1 hx; exact ziq) (fun f => Nat.beq f 167) rfl rfl rfl ?_
 refine zap rfl rfl zbq noC ?_
 have hlen : ((cXs args).length : Int) = (args.length : Int) := by rw [zb0]
 have hop : op = 0 ∨ op = 1 ∨ op = 2 ∨ op = 3 ∨ op = 4 := by omega
 unfold zg3
 rcases hop with rfl | rfl | rfl | rfl | rfl
 ·repeat (first | refine za8 ?_ | refine za5 rfl ?_ | refine zai ?_ | refine zaa ?_ | refine zbc rfl ?_ | refine za1 rfl ?_ | refine za7 rfl rfl ?_ | refine zad rfl rfl rfl rfl rfl rfl rfl ?_ | refine za9 rfl ?_ | refine zau ?_ | refine zbd rfl rfl ?_ | refine ze8 rfl rfl rfl rfl ?_ | refine zci rfl rfl rfl ?_)
  refine zaq rfl rfl rfl (fun h3 => ?_) fun h3 => ?_
  ·have h3 := of_decide_eq_true h3
   refine zal rfl rfl (onu (zb4 rfl (zsr rfl (za1 rfl (onu (zak (za4 ?_)))))))
   refine zaf ⟨.inr rfl, _, rfl, ?_⟩
   show AV.int .i64 3 = AV.int .i64 _
   exact congrArg _ (by simp (decide := true) only [zbv, zbg, zcd, zcf, if_true, if_false]; (repeat' split) <;> omega)
  have h30 := of_decide_eq_false h3
  clear h3
  repeat (first | refine za8 ?_ | refine za5 rfl ?_ | refine zai ?_ | refine zaa ?_ | refine zb7 ?_ | refine zac ?_ | refine zab ?_ | refine zb4 rfl ?_ | refine zb8 rfl ?_ | refine za1 rfl ?_ | refine za7 rfl rfl ?_ | refine za9 rfl ?_ | refine zal rfl rfl ?_ | refine zby rfl rfl rfl ?_)
  refine zaq rfl rfl rfl (fun h4 => ?_) fun h4 => ?_
  ·have h4 := of_decide_eq_true h4
   refine za1 rfl (zbz rfl rfl (zbz rfl rfl (zbz rfl rfl (zbz rfl rfl (zat rfl rfl (onu (zb4 rfl (zsr rfl (za1 rfl (onu ?_))))))))))
   refine zak (za4 ?_)
   refine zaf ⟨.inr rfl, _, rfl, ?_⟩
   show AV.int .i64 2 = AV.int .i64 _
   exact congrArg _ (by simp (decide := true) only [zbv, zbg, zcd, zcf, if_true, if_false]; (repeat' split) <;> omega)
  have h4a := of_decide_eq_false h4
  clear h4
  refine za1 rfl (zbc rfl (za9 rfl (zbc rfl (za7 rfl rfl (zbc rfl (za1 rfl (zbc rfl ?_)))))))
  refine zaq rfl rfl rfl (fun h4 => ?_) fun h4 => ?_
  ·have h4 := of_decide_eq_true h4
   refine zal rfl rfl (onu (zb4 rfl (zsr rfl (za1 rfl (onu (zak (za4 ?_)))))))
   refine zaf ⟨.inr rfl, _, rfl, ?_⟩
   show AV.int .i64 2 = AV.int .i64 _
   exact congrArg _ (by simp (decide := true) only [zbv, zbg, zcd, zcf, if_true, if_false]; (repeat' split) <;> omega)
  have h4b := of_decide_eq_false h4
  refine zal rfl rfl (onu (zb8 rfl (zab (zaa (zsr rfl (za1 rfl (onu (zak ?_))))))))
  refine zaf ⟨.inr rfl, _, rfl, ?_⟩
  show AV.int .i64 0 = AV.int .i64 _
  exact congrArg _ (by simp (decide := true) only [zbv, zbg, zcd, zcf, if_true, if_false]; (repeat' split) <;> omega)
 ·repeat (first | refine za8 ?_ | refine za5 rfl ?_ | refine zai ?_ | refine zaa ?_ | refine zbc rfl ?_ | refine za1 rfl ?_ | refine za7 rfl rfl ?_ | refine zad rfl rfl rfl rfl rfl rfl rfl ?_ | refine za9 rfl ?_ | refine zau ?_ | refine zbd rfl rfl ?_ | refine ze8 rfl rfl rfl rfl ?_ | refine zci rfl rfl rfl ?_)
  refine zaq rfl rfl rfl (fun h3 => ?_) fun h3 => ?_
  ·have h3 := of_decide_eq_true h3
   refine zal rfl rfl (onu (zb4 rfl (zsr rfl (za1 rfl (onu (zak (za4 ?_)))))))
   refine zaf ⟨.inr rfl, _, rfl, ?_⟩
   show AV.int .i64 3 = AV.int .i64 _
   exact congrArg _ (by simp (decide := true) only [zbv, zbg, zcd, zcf, if_true, if_false]; (repeat' split) <;> omega)
  have h30 := of_decide_eq_false h3
  clear h3
  repeat (first | refine za8 ?_ | refine za5 rfl ?_ | refine zai ?_ | refine zaa ?_ | refine zb7 ?_ | refine zac ?_ | refine zab ?_ | refine zb4 rfl ?_ | refine zb8 rfl ?_ | refine za1 rfl ?_ | refine za7 rfl rfl ?_ | refine za9 rfl ?_ | refine zal rfl rfl ?_ | refine zb6 (op := .sub) rfl rfl rfl ?_ | refine zby rfl rfl rfl ?_ | refine zci rfl rfl rfl ?_)
  refine zaq rfl rfl rfl (fun h4 => ?_) fun h4 => ?_
  ·have h4 := of_decide_eq_true h4
   refine za1 rfl (zbz rfl rfl (zbz rfl rfl (zbz rfl rfl (zbz rfl rfl (zat rfl rfl (onu (zb4 rfl (zsr rfl (za1 rfl (onu ?_))))))))))
   refine zak (za4 ?_)
   refine zaf ⟨.inr rfl, _, rfl, ?_⟩
   show AV.int .i64 2 = AV.int .i64 _
   exact congrArg _ (by simp (decide := true) only [zbv, zbg, zcd, zcf, if_true, if_false]; (repeat' split) <;> omega)
  have h4a := of_decide_eq_false h4
  clear h4
  refine za1 rfl (zbc rfl (za9 rfl (zbc rfl (za7 rfl rfl (zbc rfl (za1 rfl (zbc rfl ?_)))))))
  refine zaq rfl rfl rfl (fun h4 => ?_) fun h4 => ?_
  ·have h4 := of_decide_eq_true h4
   rw [zng n hn] at h4
   refine zal rfl rfl (onu (zb4 rfl (zsr rfl (za1 rfl (onu (zak (za4 ?_)))))))
   refine zaf ⟨.inr rfl, _, rfl, ?_⟩
   show AV.int .i64 2 = AV.int .i64 _
   exact congrArg _ (by simp (decide := true) only [zbv, zbg, zcd, zcf, if_true, if_false]; (repeat' split) <;> omega)
  have h4b := of_decide_eq_false h4
  rw [zng n hn] at h4b
  refine zal rfl rfl (onu (zb8 rfl (zab (zaa (zsr rfl (za1 rfl (onu (zak ?_))))))))
  refine zaf ⟨.inr rfl, _, rfl, ?_⟩
  show AV.int .i64 0 = AV.int .i64 _
  exact congrArg _ (by simp (decide := true) only [zbv, zbg, zcd, zcf, if_true, if_false]; (repeat' split) <;> omega)
 ·refine za9 rfl (za7 rfl rfl (ze8 rfl rfl rfl rfl (zau (zad rfl rfl rfl rfl rfl rfl rfl (onu (za8 (zsr rfl (za9 rfl (za7 rfl rfl (zbd rfl rfl (za9 rfl ?_)))))))))))
  refine za7 rfl rfl ?_
  refine zaq rfl rfl rfl (fun h3 => ?_) fun h3 => ?_
  ·have h3 := of_decide_eq_true h3
   repeat (first | refine za8 ?_ | refine za5 rfl ?_ | refine zai ?_ | refine zaa ?_ | refine zb4 rfl ?_ | refine zak ?_ | refine za4 ?_ | refine zbz rfl rfl ?_ | refine za1 rfl ?_ | refine zat rfl rfl ?_)
   refine zaf ⟨.inr rfl, _, rfl, ?_⟩
   show AV.int .i64 3 = AV.int .i64 _
   exact congrArg _ (by simp (decide := true) only [zbv, zbg, zcd, zcf, if_true, if_false]; (repeat' split) <;> omega)
  have h30 := of_decide_eq_false h3
  clear h3
  repeat (first | refine zbc rfl ?_ | refine za1 rfl ?_ | refine za7 rfl rfl ?_ | refine za9 rfl ?_ | refine zbd rfl rfl ?_)
  refine zaq rfl rfl rfl (fun h3 => ?_) fun h3 => ?_
  ·have h3 := of_decide_eq_true h3
   refine zal rfl rfl (onu (zb4 rfl (zsr rfl (za1 rfl (onu (zak (za4 ?_)))))))
   refine zaf ⟨.inr rfl, _, rfl, ?_⟩
   show AV.int .i64 3 = AV.int .i64 _
   exact congrArg _ (by simp (decide := true) only [zbv, zbg, zcd, zcf, if_true, if_false]; (repeat' split) <;> omega)
  have h31 := of_decide_eq_false h3
  clear h3
  repeat (first | refine za8 ?_ | refine za5 rfl ?_ | refine zai ?_ | refine zaa ?_ | refine zb7 ?_ | refine zac ?_ | refine zab ?_ | refine zb8 rfl ?_ | refine za1 rfl ?_ | refine za7 rfl rfl ?_ | refine za9 rfl ?_ | refine zal rfl rfl ?_ | refine zci rfl rfl rfl ?_)
  refine zaq rfl rfl rfl (fun h4 => ?_) fun h4 => ?_
  ·have h4 := of_decide_eq_true h4
   refine za1 rfl (zbz rfl rfl (zbz rfl rfl (zbz rfl rfl (zbz rfl rfl (zat rfl rfl (onu (zb4 rfl (zsr rfl (za1 rfl (onu ?_))))))))))
   refine zak (za4 ?_)
   refine zaf ⟨.inr rfl, _, rfl, ?_⟩
   show AV.int .i64 2 = AV.int .i64 _
   exact congrArg _ (by simp (decide := true) only [zbv, zbg, zcd, zcf, if_true, if_false]; (repeat' split) <;> omega)
  have h4a := of_decide_eq_false h4
  clear h4
  refine za1 rfl (zbc rfl (za9 rfl (zbc rfl (za7 rfl rfl (zbc rfl (za1 rfl (zbc rfl ?_)))))))
  refine zaq rfl rfl rfl (fun h4 => ?_) fun h4 => ?_
  ·have h4 := of_decide_eq_true h4
   refine zal rfl rfl (onu (zb4 rfl (zsr rfl (za1 rfl (onu (zak (za4 ?_)))))))
   refine zaf ⟨.inr rfl, _, rfl, ?_⟩
   show AV.int .i64 2 = AV.int .i64 _
   exact congrArg _ (by simp (decide := true) only [zbv, zbg, zcd, zcf, if_true, if_false]; (repeat' split) <;> omega)
  have h4b := of_decide_eq_false h4
  refine zal rfl rfl (onu (zb8 rfl (zab (zaa (zsr rfl (za1 rfl (onu (zak ?_))))))))
  refine zaf ⟨.inr rfl, _, rfl, ?_⟩
  show AV.int .i64 0 = AV.int .i64 _
  exact congrArg _ (by simp (decide := true) only [zbv, zbg, zcd, zcf, if_true, if_false]; (repeat' split) <;> omega)
 ·refine za9 rfl (za7 rfl rfl (ze8 rfl rfl rfl rfl (zau (zad rfl rfl rfl rfl rfl rfl rfl (onu (za8 (zsr rfl (za9 rfl (za7 rfl rfl (zbd rfl rfl (za9 rfl ?_)))))))))))
  refine za7 rfl rfl ?_
  refine zaq rfl rfl rfl (fun h3 => ?_) fun h3 => ?_
  ·have h3 := of_decide_eq_true h3
   repeat (first | refine za8 ?_ | refine za5 rfl ?_ | refine zai ?_ | refine zaa ?_ | refine zb4 rfl ?_ | refine zak ?_ | refine za4 ?_ | refine zbz rfl rfl ?_ | refine za1 rfl ?_ | refine zat rfl rfl ?_)
   refine zaf ⟨.inr rfl, _, rfl, ?_⟩
   show AV.int .i64 3 = AV.int .i64 _
   exact congrArg _ (by simp (decide := true) only [zbv, zbg, zcd, zcf, if_true, if_false]; (repeat' split) <;> omega)
  have h30 := of_decide_eq_false h3
  clear h3
  repeat (first | refine zbc rfl ?_ | refine za1 rfl ?_ | refine za7 rfl rfl ?_ | refine za9 rfl ?_ | refine zbd rfl rfl ?_)
  refine zaq rfl rfl rfl (fun h3 => ?_) fun h3 => ?_
  ·have h3 := of_decide_eq_true h3
   refine zal rfl rfl (onu (zb4 rfl (zsr rfl (za1 rfl (onu (zak (za4 ?_)))))))
   refine zaf ⟨.inr rfl, _, rfl, ?_⟩
   show AV.int .i64 3 = AV.int .i64 _
   exact congrArg _ (by simp (decide := true) only [zbv, zbg, zcd, zcf, if_true, if_false]; (repeat' split) <;> omega)
  have h31 := of_decide_eq_false h3
  clear h3
  repeat (first | refine za8 ?_ | refine za5 rfl ?_ | refine zai ?_ | refine zaa ?_ | refine zb7 ?_ | refine zac ?_ | refine zab ?_ | refine zb8 rfl ?_ | refine za1 rfl ?_ | refine za7 rfl rfl ?_ | refine za9 rfl ?_ | refine zal rfl rfl ?_ | refine zci rfl rfl rfl ?_)
  refine zaq rfl rfl rfl (fun h4 => ?_) fun h4 => ?_
  ·have h4 := of_decide_eq_true h4
   refine za1 rfl (zbz rfl rfl (zbz rfl rfl (zbz rfl rfl (zbz rfl rfl (zat rfl rfl (onu (zb4 rfl (zsr rfl (za1 rfl (onu ?_))))))))))
   refine zak (za4 ?_)
   refine zaf ⟨.inr rfl, _, rfl, ?_⟩
   show AV.int .i64 2 = AV.int .i64 _
   exact congrArg _ (by simp (decide := true) only [zbv, zbg, zcd, zcf, if_true, if_false]; (repeat' split) <;> omega)
  have h4a := of_decide_eq_false h4
  clear h4
  refine za1 rfl (zbc rfl (za9 rfl (zbc rfl (za7 rfl rfl (zbc rfl (za1 rfl (zbc rfl ?_)))))))
  refine zaq rfl rfl rfl (fun h4 => ?_) fun h4 => ?_
  ·have h4 := of_decide_eq_true h4
   refine zal rfl rfl (onu (zb4 rfl (zsr rfl (za1 rfl (onu (zak (za4 ?_)))))))
   refine zaf ⟨.inr rfl, _, rfl, ?_⟩
   show AV.int .i64 2 = AV.int .i64 _
   exact congrArg _ (by simp (decide := true) only [zbv, zbg, zcd, zcf, if_true, if_false]; (repeat' split) <;> omega)
  have h4b := of_decide_eq_false h4
  refine zal rfl rfl (onu (zb8 rfl (zab (zaa (zsr rfl (za1 rfl (onu (zak ?_))))))))
  refine zaf ⟨.inr rfl, _, rfl, ?_⟩
  show AV.int .i64 0 = AV.int .i64 _
  exact congrArg _ (by simp (decide := true) only [zbv, zbg, zcd, zcf, if_true, if_false]; (repeat' split) <;> omega)
 ·refine za9 rfl (za7 rfl rfl (ze8 rfl rfl rfl rfl (zau (zad rfl rfl rfl rfl rfl rfl rfl (onu (za8 (zsr rfl (za9 rfl (za7 rfl rfl (zbd rfl rfl (za9 rfl ?_)))))))))))
  refine za7 rfl rfl ?_
  refine zaq rfl rfl rfl (fun h3 => ?_) fun h3 => ?_
  ·have h3 := of_decide_eq_true h3
   repeat (first | refine za8 ?_ | refine za5 rfl ?_ | refine zai ?_ | refine zaa ?_ | refine zb4 rfl ?_ | refine zak ?_ | refine za4 ?_ | refine zbz rfl rfl ?_ | refine za1 rfl ?_ | refine zat rfl rfl ?_)
   refine zaf ⟨.inr rfl, _, rfl, ?_⟩
   show AV.int .i64 3 = AV.int .i64 _
   exact congrArg _ (by simp (decide := true) only [zbv, zbg, zcd, zcf, if_true, if_false]; (repeat' split) <;> omega)
  have h30 := of_decide_eq_false h3
  clear h3
  repeat (first | refine zbc rfl ?_ | refine za1 rfl ?_ | refine za7 rfl rfl ?_ | refine za9 rfl ?_ | refine zbd rfl rfl ?_)
  refine zaq rfl rfl rfl (fun h3 => ?_) fun h3 => ?_
  ·have h3 := of_decide_eq_true h3
   refine zal rfl rfl (onu (zb4 rfl (zsr rfl (za1 rfl (onu (zak (za4 ?_)))))))
   refine zaf ⟨.inr rfl, _, rfl, ?_⟩
   show AV.int .i64 3 = AV.int .i64 _
   exact congrArg _ (by simp (decide := true) only [zbv, zbg, zcd, zcf, if_true, if_false]; (repeat' split) <;> omega)
  have h31 := of_decide_eq_false h3
  clear h3
  repeat (first | refine za8 ?_ | refine za5 rfl ?_ | refine zai ?_ | refine zaa ?_ | refine zb7 ?_ | refine zac ?_ | refine zab ?_ | refine zb8 rfl ?_ | refine za1 rfl ?_ | refine za7 rfl rfl ?_ | refine za9 rfl ?_ | refine zal rfl rfl ?_ | refine zci rfl rfl rfl ?_)
  refine zaq rfl rfl rfl (fun h4 => ?_) fun h4 => ?_
  ·have h4 := of_decide_eq_true h4
   refine za1 rfl (zbz rfl rfl (zbz rfl rfl (zbz rfl rfl (zbz rfl rfl (zat rfl rfl (onu (zb4 rfl (zsr rfl (za1 rfl (onu ?_))))))))))
   refine zak (za4 ?_)
   refine zaf ⟨.inr rfl, _, rfl, ?_⟩
   show AV.int .i64 2 = AV.int .i64 _
   exact congrArg _ (by simp (decide := true) only [zbv, zbg, zcd, zcf, if_true, if_false]; (repeat' split) <;> omega)
  have h4a := of_decide_eq_false h4
  clear h4
  refine za1 rfl (zbc rfl (za9 rfl (zbc rfl (za7 rfl rfl (zbc rfl (za1 rfl (zbc rfl ?_)))))))
  refine zaq rfl rfl rfl (fun h4 => ?_) fun h4 => ?_
  ·have h4 := of_decide_eq_true h4
   refine zal rfl rfl (onu (zb4 rfl (zsr rfl (za1 rfl (onu (zak (za4 ?_)))))))
   refine zaf ⟨.inr rfl, _, rfl, ?_⟩
   show AV.int .i64 2 = AV.int .i64 _
   exact congrArg _ (by simp (decide := true) only [zbv, zbg, zcd, zcf, if_true, if_false]; (repeat' split) <;> omega)
  have h4b := of_decide_eq_false h4
  refine zal rfl rfl (onu (zb8 rfl (zab (zaa (zsr rfl (za1 rfl (onu (zak ?_))))))))
  refine zaf ⟨.inr rfl, _, rfl, ?_⟩
  show AV.int .i64 0 = AV.int .i64 _
  exact congrArg _ (by simp (decide := true) only [zbv, zbg, zcd, zcf, if_true, if_false]; (repeat' split) <;> omega)
section
variable {P : Program} {w0 : World} {N0 : Nat}
theorem zkx {id sp size : Nat} {args : List AV} {ltm l0 : List (Nat × AV)} {ps : List Nat} {ca cb : Code} {df : Nat × Nat} {ia ib : IC} {H : HS} {F : AV → HS → Prop} (hl : Am.look id H.heap = some (sp, .loop .ready none size (zcz ltm) ps ca cb df))
  (ha : Com P ca ia) (hb : Com P cb ib) (hps : ps.length = args.length) (hlt : ∀ p ∈ ps, p < size) (hput : zju ps args (zcz ltm) = zcz l0)
  (h : Zm P w0 N0 (some (some (id, sp))) ia (st size l0 H.heap H.next H.clk) [] fun e S1 => e = .normal ∧ ∃ l1 hp1 n1 c1, S1 = st size l1 hp1 n1 c1 ∧ Am.look id hp1 = some (sp, .loop .ready none size (zcz ltm) ps ca cb df) ∧
   Zm P w0 N0 (some (some (id, sp))) ib (st size l1 (zax id (sp, .loop .busy none size (zcz ltm) ps ca cb df) hp1) n1 c1) [] (zsu id sp F)) : CT P w0 N0 (.yield id sp) args H F := by
 refine znh hl ha hb hps hlt ?_
 have e : AS.round size (zcz ltm) ps args H = st size l0 H.heap H.next H.clk := by
  unfold AS.round st
  rw [hput]
 rw [e]
 refine zed h.ok fun e S1 ⟨he, l1, hp1, n1, c1, hS, hlk, hz⟩ => ⟨he, ?_⟩
 subst hS
 exact ⟨size, zcz ltm, ps, ca, cb, df, hlk, hz.ok⟩
end
theorem zim {S : AS} {a : Nat} {pa va : AV} {ra : List AV} (h1 : S.get a = some pa) (d1 : S.deref pa = some (va :: ra)) : S.res [.cell a none] = some va := by
 simp [AS.res, AS.resL, zs7, h1, d1]
noncomputable def zv0 : Code := match env0.fn 128 with
 | some i => ((zbs i.ic).headD (.skip, .skip)).1
 | none => .skip
noncomputable def zv4 : Code := match env0.fn 128 with
 | some i => ((zbs i.ic).headD (.skip, .skip)).2
 | none => .skip
def zwu : IC := .region [oM 9 (.alloc [.int .i64 0, .int .i64 0, .nils]),
  ⟨none, .store 3 (.t 9) (.t 28), none⟩] none
def zrc : IC := .block 1 (.seq (.region [oL 29 3 9,
  oN 30 3,
  oM 31 (.call (.c (.fn 155 [] [])) [(.t 29), (.t 30)]),
  oT 10 31] none)
 (.seq (.region [oT 32 10,
  oM 33 (.bin .neq (.t 32) (.c (.int .i64 0)))] none)
 (.cond (.t 33) (.seq (.region [oT 34 10,
  ⟨none, .store 1 (.t 4) (.t 34), none⟩] none)
 (.ret))
 (.skip))))
-- pneumatic/boolexp.Check
noncomputable def ic128 : IC := .seq (.region [oM 2 (.box (.t 0)),
  oM 3 (.box (.t 1)),
  oM 4 (.alloc [.int .i64 0])] none)
 (.seq (.seq (.region [oN 11 3,
  oM 12 (.bin .lss (.t 11) (.c (.int .i64 0))),
  oT 13 12,
  ⟨(some 14), .load none (.t 3), some (13, false)⟩,
  ⟨(some 15), .bin .gtr (.t 14) (.c (.int .i64 256)), some (13, false)⟩,
  oM 16 (.pick (.t 13) (.c (.bool true)) (.t 15))] none)
 (.cond (.t 16) (.seq (.region [⟨none, .store 1 (.t 4) (.c (.int .i64 2)), none⟩] none)
 (.ret))
 (.skip)))
 (.seq (.seq (.region [oL 18 3 2,
  oM 19 (.call (.c (.fn 153 [] [])) [(.t 18)]),
  oT 17 19,
  oM 20 (.extract (.t 17) 0),
  oM 21 (.extract (.t 17) 1),
  oM 22 (.extract (.t 17) 2),
  oT 5 20,
  oT 6 21,
  oT 7 22] none)
 (.seq (.region [oT 23 7,
  oM 24 (.un .not (.t 23))] none)
 (.cond (.t 24) (.seq (.region [⟨none, .store 1 (.t 4) (.c (.int .i64 5)), none⟩] none)
 (.ret))
 (.skip))))
 (.seq (.seq (.region [oL 25 3 2,
  oM 26 (.call (.c (.fn 154 [] [])) [(.t 25)])] none)
 (.block 0 (.rangeFunc (.t 26) [27, 28] zv0 zv4 zwu zrc)))
 (.seq (.region [⟨none, .store 1 (.t 4) (.c (.int .i64 0)), none⟩] none)
 (.ret)))))
theorem fn128 : env0.fn 128 = some ⟨35, ic128, [.cell 4 none]⟩ := by kernel_rfl
def zzb (n : Int) : Ex → Int
 | .nd op ix args => zbv op ix args.length n
def zqw (n : Int) (s : Unit) (_ : Int) (x : Ex) : Unit ⊕ Int := if zzb n x = 0 then .inl s else .inr (zzb n x)
structure I59 (ltm : List (Nat × AV)) (n : Int) (_ : Unit) (H : HS) : Prop where
 nx : 5 ≤ H.next
 h4 : Am.look 4 H.heap = some (4, .loop .ready none 35 (zcz ltm) [27, 28] zv0 zv4 (3, 3))
 h3 : Am.look 3 H.heap = some (3, .deferred)
 h2 : Am.look 2 H.heap = some (2, .cells [.int .i64 0])
 h1 : Am.look 1 H.heap = some (1, .cells [.int .i64 n])
structure J59 (t : Int) (H : HS) : Prop where
 nx : 5 ≤ H.next
 h4 : ∃ tm, Am.look 4 H.heap = some (4, .loop .done (some .ret) 35 tm [27, 28] zv0 zv4 (3, 3))
 h3 : Am.look 3 H.heap = some (3, .deferred)
 h2 : Am.look 2 H.heap = some (2, .cells [.int .i64 t])
theorem local59 (ltm : List (Nat × AV)) (n : Int) : Local (fun i => i < 5) (I59 ltm n) :=
 ⟨fun s H h i hi => y0v hi h.nx, fun s H H' h hn hl =>
  ⟨y0q h.nx hn, (hl 4 (by decide)).trans h.h4, (hl 3 (by decide)).trans h.h3, (hl 2 (by decide)).trans h.h2, (hl 1 (by decide)).trans h.h1⟩⟩
set_option maxHeartbeats 2000000 in
theorem yield59 {w0 : World} {N0 : Nat} (ltm : List (Nat × AV)) (g3 : zbt (.t 3) ltm = some (.mptr 1 1 0)) (g4 : zbt (.t 4) ltm = some (.mptr 2 2 0)) (n : Int) (hn : 0 ≤ n ∧ n ≤ 256) (ha : Com Try.prog zv0 zwu) (hb : Com Try.prog zv4 zrc) (s : Unit) (d : Int) (x : Ex) (H : HS) (h : I59 ltm n s H) :
  CT Try.prog w0 N0 (.yield 4 4) [.int .i64 d, .agg (cX x)] H (zwb (fun i => i < 5) (I59 ltm n) J59 H (zqw n s d x)) := by
 obtain ⟨op, ix, args⟩ := x
 obtain ⟨nx, h4, h3, h2, h1⟩ := h
 have q4 : H.next ≠ 4 := by omega
 refine zkx (l0 := (28, .agg (cX (.nd op ix args))) :: (27, .int .i64 d) :: ltm) h4 ha hb rfl (by decide) rfl ?_
 unfold zwu
 refine za5 rfl (zau ?_)
 refine zad (sp := H.clk) (cs := [.int .i64 0, .int .i64 0, .nils]) rfl rfl rfl rfl zar rfl rfl ?_
 refine zai ?_
 refine zaf ⟨rfl, _, _, _, _, rfl, ?_, ?_⟩
 ·rw [zbr, za2, if_neg (by omega)]; exact h4
 rw [zbr]
 unfold zrc
 refine zac (zsr rfl ?_)
 refine zcu (sp := H.clk) (cs := cX (.nd op ix args)) rfl (by rw [za0, if_neg (by omega)]; exact zar) (by omega) rfl rfl ?_
 refine zbk (sp := 1) (cs := [.int .i64 n]) g3 (by rw [za0, if_neg (by decide), zaz (by omega)]; exact h1) (by omega) rfl ?_
 refine zap rfl rfl (node88 op ix n args hn) noC ?_
 refine za1 rfl (onr rfl (za1 rfl ?_))
 refine zaq rfl rfl rfl (fun hg => ?_) fun hg => ?_
 ·have hg := bne_iff_ne.1 hg
  refine onu (zb4 rfl (zsr rfl (za1 rfl ?_)))
  refine zad (sp := 2) (cs := [.int .i64 0]) g4 rfl rfl rfl (by rw [za0, if_neg (by decide), zaz (by omega)]; exact h2) rfl rfl ?_
  refine onu (zak (zag ?_))
  refine zaf ⟨35, zcz ltm, [27, 28], zv0, zv4, (3, 3), ?_, some .ret, rfl, ⟨y1a _, y1a _, fun i hi hj => ?_⟩, ?_⟩
  ·dsimp only [st]
   rw [za0, if_neg (by decide), za0, if_pos rfl]
  ·dsimp only [st]
   rw [za0, if_neg (by omega), za0, if_neg (by omega), za0, if_neg (by omega), zaz (by omega)]
  ·unfold zqw
   rw [if_neg (show ¬ zzb n (.nd op ix args) = 0 from hg)]
   refine ⟨rfl, Nat.le_succ_of_le nx, ⟨zcz ltm, ?_⟩, ?_, ?_⟩
   ·dsimp only [st]
    rw [za0, if_pos rfl]; rfl
   ·dsimp only [st]
    rw [za0, if_neg (by decide), za0, if_neg (by decide), za0, if_neg (by decide), zaz (by omega)]; exact h3
   ·dsimp only [st]
    rw [za0, if_neg (by decide), za0, if_pos rfl]; rfl
 ·have hg : zbv op ix args.length n = 0 := by simpa using hg
  refine onu (zb8 rfl (zab (zb7 ?_)))
  refine zaf ⟨35, zcz ltm, [27, 28], zv0, zv4, (3, 3), ?_, none, rfl, ⟨y1a _, y1a _, fun i hi hj => ?_⟩, ?_⟩
  ·dsimp only [st]
   rw [za0, if_pos rfl]
  ·dsimp only [st]
   rw [za0, if_neg (by omega), za0, if_neg (by omega), zaz (by omega)]
  ·unfold zqw
   rw [if_pos (show zzb n (.nd op ix args) = 0 from hg)]
   refine ⟨rfl, Nat.le_succ_of_le nx, ?_, ?_, ?_, ?_⟩
   ·dsimp only [st]
    rw [za0, if_pos rfl]; rfl
   all_goals
    dsimp only [st]
    rw [za0, if_neg (by decide), za0, if_neg (by decide), zaz (by omega)]
   ·exact h3
   ·exact h2
   ·exact h1
def zmf (x : Ex) (n : Int) : Int := if n < 0 ∨ n > 256 then 2 else match zga zir 1 x (0, 0) with
 | .inr _ => 5
 | .inl _ => match zga (zqw n) 1 x () with
  | .inl _ => 0
  | .inr t => t
set_option maxHeartbeats 2000000 in
theorem zxi (x : Ex) (hs : Slim x) (n : Int) : PF Try.prog 128 [.agg (cX x), .int .i64 n] (.int .i64 (zmf x n)) := by
 obtain ⟨op, ix, args⟩ := x
 refine zb1 env0_ok fn128 [(0, .agg (cX (.nd op ix args))), (1, .int .i64 n)] (by show 2 ≤ 35; decide) rfl fun w0 N0 => ?_
 unfold ic128
 refine zsr rfl (zc1 rfl rfl (zc1 rfl rfl (zau (onu (za8 (zsr rfl (za7 rfl rfl ?_)))))))
 refine zaq rfl rfl rfl (fun hl => ?_) fun hl => ?_
 ·have hl := of_decide_eq_true hl
  refine za1 rfl (zbz rfl rfl (zbz rfl rfl (zat rfl rfl (onu (zb4 rfl (zsr rfl (zad rfl rfl rfl rfl rfl rfl rfl (onu (zak (za4 ?_))))))))))
  refine zaf ⟨.inr rfl, _, rfl, ?_⟩
  unfold zmf
  rw [if_pos (.inl hl)]
  rfl
 have hl := of_decide_eq_false hl
 refine za1 rfl (zbc rfl (za7 rfl rfl (zbc rfl ?_)))
 refine zaq rfl rfl rfl (fun hm => ?_) fun hm => ?_
 ·have hm := of_decide_eq_true hm
  refine zal rfl rfl (onu (zb4 rfl (zsr rfl (zad rfl rfl rfl rfl rfl rfl rfl (onu (zak (za4 ?_)))))))
  refine zaf ⟨.inr rfl, _, rfl, ?_⟩
  unfold zmf
  rw [if_pos (.inr hm)]
  rfl
 have hm := of_decide_eq_false hm
 have hn : 0 ≤ n ∧ n ≤ 256 := ⟨by omega, by omega⟩
 unfold zmf
 rw [if_neg (fun h => h.elim hl hm)]
 refine zal rfl rfl (onu (zb8 rfl (zab (zaa (za8 (zsr rfl (zam rfl rfl rfl rfl ?_)))))))
 have hme := zz8 (.nd op ix args) hs
 unfold zom at hme
 cases hwk : zga zir 1 (.nd op ix args) (0, 0) with
 | inr u =>
  rw [hwk] at hme
  refine zap rfl rfl hme noC ?_
  repeat (first | refine za8 ?_ | refine za5 rfl ?_ | refine zai ?_ | refine zaa ?_ | refine zb4 rfl ?_ | refine zak ?_ | refine za4 ?_ | refine za1 rfl ?_ | refine zad rfl rfl rfl rfl rfl rfl rfl ?_ | refine zfr rfl rfl ?_ | refine zbj rfl rfl ?_)
  refine zaf ⟨.inr rfl, _, rfl, rfl⟩
 | inl nm =>
  obtain ⟨nn, mm⟩ := nm
  rw [hwk] at hme
  refine zap rfl rfl hme noC ?_
  repeat (first | refine za8 ?_ | refine za5 rfl ?_ | refine zai ?_ | refine zaa ?_ | refine zab ?_ | refine zb8 rfl ?_ | refine za1 rfl ?_ | refine zam rfl rfl rfl rfl ?_ | refine zfr rfl rfl ?_ | refine zbj rfl rfl ?_)
  refine zap rfl rfl (zn1 (.nd op ix args)) noC ?_
  refine onu (zac ?_)
  refine zgu (.inl rfl) rfl fun ha hb => (zuc (local59 _ n) (fun s d x H h => yield59 _ rfl rfl n hn ha hb s d x H h) (.nd op ix args) ⟨_, _, _⟩ () hs ⟨y0c _, rfl, rfl, rfl, rfl⟩).mono fun v H2 hF => ?_
  obtain ⟨hK, hF⟩ := hF
  cases hck : zga (zqw n) 1 (.nd op ix args) () with
  | inl s =>
   rw [hck] at hF
   obtain ⟨nx, h4, h3, h2, h1⟩ := hF
   refine ⟨_, _, .normal, _, _, _, _, _, _, h4, by simp, rfl, fun z hz => ?_, ?_⟩
   ·obtain rfl := y0e.1 hz
    rw [za3, if_neg (by decide)]; exact h3
   ·refine zb7 (zaa (zsr rfl ?_))
    refine zad (sp := 2) (cs := [.int .i64 0]) rfl rfl rfl rfl (by rw [za3, if_neg (by decide)]; exact h2) rfl rfl ?_
    refine onu (zak ?_)
    refine zaf ⟨.inr rfl, .int .i64 0, zim (zd3 4) (zc4 (sp := 2) (cs := [.int .i64 0]) ?_ ?_), rfl⟩
    ·show Am.look 2 (zbe 3 (zax 2 _ (zbe 4 H2.heap))) = _
     rw [za3, if_neg (by decide), za0, if_pos rfl]; rfl
    ·show 2 < H2.next; omega
  | inr t =>
   rw [hck] at hF
   obtain ⟨nx, ⟨tm, h4⟩, h3, h2⟩ := hF
   refine ⟨_, _, .ret, _, _, _, _, _, _, h4, by simp, rfl, fun z hz => ?_, ?_⟩
   ·obtain rfl := y0e.1 hz
    rw [za3, if_neg (by decide)]; exact h3
   ·refine zag (za4 ?_)
    refine zaf ⟨.inr rfl, .int .i64 t, zim (zd3 4) (zc4 (sp := 2) (cs := [.int .i64 t]) ?_ ?_), rfl⟩
    ·show Am.look 2 (zbe 3 (zbe 4 H2.heap)) = _
     rw [za3, if_neg (by decide), za3, if_neg (by decide)]; exact h2
    ·show 2 < H2.next; omega
def zes : Nat → Ex → Bool
 | 0, _ => false
 | m + 1, .nd _ _ args => if m = 0 then args.isEmpty else args.all (zes m)
def zx7 : IC := .seq (.seq (.region [oT 14 5,
  oF 15 2 2,
  oN 16 15,
  oM 17 (.len false (.t 16)),
  oM 18 (.bin .lss (.t 14) (.t 17))] none)
 (.cond (.t 18) (.skip)
 (.exit 0)))
 (.seq (.block 1 (.seq (.region [oF 21 2 2,
  oN 22 21,
  oT 23 5,
  oM 24 (.idxs 3 (.t 22) (.t 23)),
  oL 25 3 24,
  oT 26 1,
  oM 27 (.bin .sub (.t 26) (.c (.int .i64 1))),
  oM 28 (.call (.c (.fn 124 [] [])) [(.t 25), (.t 27)]),
  oM 29 (.un .not (.t 28))] none)
 (.cond (.t 29) (.seq (.region [oM 4 (.mov (.c (.bool false)))] none)
 (.ret))
 (.skip))))
 (.region [oT 19 5,
  oM 20 (.bin .add (.t 19) (.c (.int .i64 1))),
  oT 5 20] none))
-- pneumatic/pneumaticref05.Deep
def ic124 : IC := .seq (.region [oM 2 (.box (.t 0)),
  oM 4 (.mov (.c (.bool false)))] none)
 (.seq (.seq (.region [oT 6 1,
  oM 7 (.bin .lss (.t 6) (.c (.int .i64 1)))] none)
 (.cond (.t 7) (.seq (.region [oM 4 (.mov (.c (.bool false)))] none)
 (.ret))
 (.skip)))
 (.seq (.seq (.region [oT 8 1,
  oM 9 (.bin .eql (.t 8) (.c (.int .i64 1)))] none)
 (.cond (.t 9) (.seq (.region [oF 10 2 2,
  oN 11 10,
  oM 12 (.len false (.t 11)),
  oM 13 (.bin .eql (.t 12) (.c (.int .i64 0))),
  oT 4 13] none)
 (.ret))
 (.skip)))
 (.seq (.seq (.region [oM 5 (.mov (.c (.int .i64 0)))] none)
 (.block 0 (.loop zx7)))
 (.seq (.region [oM 4 (.mov (.c (.bool true)))] none)
 (.ret)))))
theorem fn124 : env0.fn 124 = some ⟨30, ic124, [.t 4]⟩ := by kernel_rfl
theorem zqt {op ix : Int} {args : List Ex} (h : Slim (.nd op ix args)) : args.length < 9223372036854775808 ∧ ∀ y ∈ args, Slim y := by
 cases h with | nd h k => exact ⟨h, k⟩
set_option maxHeartbeats 2000000 in
theorem deep73 : ∀ (m : Nat) (x : Ex) (z : Int), z = m → m ≤ 300 → Slim x → PF Try.prog 124 [.agg (cX x), .int .i64 z] (.bool (zes m x)) := by
 intro m
 induction m with
 | zero =>
  intro x z hz hm hs
  obtain ⟨op, ix, args⟩ := x
  refine zb1 env0_ok fn124 [(0, .agg (cX (.nd op ix args))), (1, .int .i64 z)] (by show 2 ≤ 30; decide) rfl fun w0 N0 => ?_
  unfold ic124
  refine zsr rfl (zc1 rfl rfl (za1 rfl (onu (za8 (zsr rfl (za1 rfl ?_))))))
  refine zaq rfl rfl rfl (fun h1 => ?_) fun h1 => ?_
  ·refine onu (zb4 rfl (zsr rfl (za1 rfl (onu (zak (za4 ?_))))))
   exact zaf ⟨.inr rfl, _, rfl, rfl⟩
  ·have h1 := of_decide_eq_false h1
   exact absurd hz (by omega)
 | succ m ih =>
  intro x z hz hm hs
  obtain ⟨op, ix, args⟩ := x
  obtain ⟨hlen, hsl⟩ := zqt hs
  refine zb1 env0_ok fn124 [(0, .agg (cX (.nd op ix args))), (1, .int .i64 z)] (by show 2 ≤ 30; decide) rfl fun w0 N0 => ?_
  unfold ic124
  refine zsr rfl (zc1 rfl rfl (za1 rfl (onu (za8 (zsr rfl (za1 rfl ?_))))))
  refine zaq rfl rfl rfl (fun h1 => ?_) fun h1 => ?_
  ·have h1 := of_decide_eq_true h1
   exact absurd hz (by omega)
  refine onu (zb8 rfl (zab (zaa (za8 (zsr rfl (za1 rfl ?_))))))
  refine zaq rfl rfl rfl (fun h2 => ?_) fun h2 => ?_
  ·have hm0 : m = 0 := by have := beq_iff_eq.1 h2; omega
   subst hm0
   refine onu (zb4 rfl (zsr rfl (za9 rfl (za7 rfl rfl (zbd rfl rfl ?_)))))
   have hd : zes (0 + 1) (.nd op ix args) = args.isEmpty := rfl
   rw [hd]
   refine zaq rfl rfl rfl (fun h3 => ?_) fun h3 => ?_
   ·refine za1 rfl (onu (zak (za4 ?_)))
    refine zaf ⟨.inr rfl, _, rfl, ?_⟩
    have h3 : ((cXs args).length : Int) = 0 := beq_iff_eq.1 h3
    rw [zb0] at h3
    have : args = [] := y1k.1 (by omega)
    subst this
    rfl
   ·refine za1 rfl (onu (zak (za4 ?_)))
    refine zaf ⟨.inr rfl, _, rfl, ?_⟩
    have h3 : ¬ ((cXs args).length : Int) = 0 := by simpa using h3
    rw [zb0] at h3
    cases args with
    | nil => exact absurd rfl h3
    | cons a l => rfl
  have hm0 : m ≠ 0 := by
   have : ¬ z = 1 := by simpa using h2
   omega
  have hd : zes (m + 1) (.nd op ix args) = args.all (zes m) := by rw [zes, if_neg hm0]
  rw [hd]
  refine onu (zb8 rfl (zab (zaa (za8 (zsr rfl (za1 rfl (onu (zac ?_))))))))
  refine zbu (fun mm S => ∃ i, mm = args.length - i ∧ i ≤ args.length ∧ args.all (zes m) = (args.drop i).all (zes m) ∧
    S = st 30 [(1, .int .i64 z), (2, .mptr 0 0 0), (5, .int .i64 (i : Nat))] [(0, 0, .cells (cX (.nd op ix args)))] 1 1) args.length
   (zan (.cons rfl (.cons rfl (.cons rfl .nil)))) ⟨0, rfl, y0t _, rfl, rfl⟩ ?_
  rintro mm S ⟨i, rfl, hi, hall, rfl⟩
  unfold zx7
  refine za8 (zsr rfl (za1 rfl (za9 rfl (za7 rfl rfl (zbd rfl rfl ?_)))))
  refine zaq rfl rfl rfl (fun h3 => ?_) fun h3 => ?_
  ·have hlt : i < args.length := by
    have := of_decide_eq_true h3
    rw [zb0] at this
    omega
   have hdr : args.drop i = args[i] :: args.drop (i + 1) := y0g hlt
   rw [hdr] at hall
   have hge := zf9 hlt
   have hmem : args[i] ∈ args := y0y hlt
   generalize args[i] = y at hall hge hmem
   obtain ⟨yo, yi, ya⟩ := y
   refine onu (zb4 rfl (zab (zaa (za8 (zac (zsr rfl (za9 rfl (za7 rfl rfl (za1 rfl ?_)))))))))
   refine zbh rfl rfl (y1b i) hge rfl ?_
   refine zam rfl rfl rfl rfl (za1 rfl (zb6 (op := .sub) rfl rfl rfl ?_))
   rw [show IntKind.wrap .i64 (z - 1) = z - 1 from wrap_small _ (by omega) (by omega)]
   have hc := ih (.nd yo yi ya) (z - 1) (by omega) (by omega) (hsl _ hmem)
   rw [y26] at hall
   cases hb : zes m (.nd yo yi ya) with
   | true =>
    rw [hb] at hc hall
    rw [Bool.true_and] at hall
    refine zap rfl rfl hc noC ?_
    refine zfr rfl rfl (onu (zb8 rfl (zab (zb7 (zaa (za5 rfl (za1 rfl (zb6 (op := .add) rfl rfl rfl (za1 rfl (zai ?_))))))))))
    rw [zas i (by omega)]
    exact zav (show args.length - (i + 1) < args.length - i by omega) (zan (.cons rfl (.cons rfl (.cons rfl .nil)))) ⟨i + 1, rfl, hlt, hall, rfl⟩
   | false =>
    rw [hb] at hc hall
    rw [Bool.false_and] at hall
    refine zap rfl rfl hc noC ?_
    refine zfr rfl rfl (onu (zb4 rfl (zsr rfl (za1 rfl (onu (zak (zag (za4 ?_))))))))
    refine zbb ?_
    refine zag (za4 ?_)
    refine zaf ⟨.inr rfl, _, rfl, ?_⟩
    rw [hall]
    rfl
  ·have hi2 : i = args.length := by
    have := of_decide_eq_false h3
    rw [zb0] at this
    omega
   refine onu (zb8 rfl (zbm (zao ?_)))
   refine zcn ?_
   refine zbl (zaa (zsr rfl (za1 rfl (onu (zak ?_)))))
   refine zaf ⟨.inr rfl, _, rfl, ?_⟩
   subst hi2
   rw [hall, y0s]
   rfl
mutual
def cnt (most : Int) : Ex → Int
 | .nd _ _ args => zrk most 1 args
def zrk (most n : Int) : List Ex → Int
 | [] => n
 | y :: ys => if n ≤ most then zrk most (n + cnt (most - n) y) ys else n
end
mutual
theorem zmh (most : Int) (h : 0 ≤ most) : ∀ x : Ex, 1 ≤ cnt most x ∧ cnt most x ≤ most + 1
 | .nd op ix args => by
  rw [cnt]
  exact zxq most h 1 (by omega) (by omega) args
theorem zxq (most : Int) (h : 0 ≤ most) (n : Int) (h1 : 1 ≤ n) (h2 : n ≤ most + 1) : ∀ l : List Ex, 1 ≤ zrk most n l ∧ zrk most n l ≤ most + 1
 | [] => by rw [zrk]; exact ⟨h1, h2⟩
 | y :: ys => by
  rw [zrk]
  split
  ·have := zmh (most - n) (by omega) y
   exact zxq most h _ (by omega) (by omega) ys
  ·exact ⟨h1, h2⟩
end
def zx6 : IC := .seq (.seq (.region [oT 7 6,
  oF 8 2 2,
  oN 9 8,
  oM 10 (.len false (.t 9)),
  oM 11 (.bin .lss (.t 7) (.t 10)),
  oT 12 11,
  ⟨(some 13), .mov (.t 5), some (12, true)⟩,
  ⟨(some 14), .mov (.t 1), some (12, true)⟩,
  ⟨(some 15), .bin .leq (.t 13) (.t 14), some (12, true)⟩,
  oM 16 (.pick (.t 12) (.t 15) (.c (.bool false)))] none)
 (.cond (.t 16) (.skip)
 (.exit 0)))
 (.seq (.block 1 (.region [oT 19 5,
  oF 20 2 2,
  oN 21 20,
  oT 22 6,
  oM 23 (.idxs 3 (.t 21) (.t 22)),
  oL 24 3 23,
  oT 25 1,
  oT 26 5,
  oM 27 (.bin .sub (.t 25) (.t 26)),
  oM 28 (.call (.c (.fn 123 [] [])) [(.t 24), (.t 27)]),
  oM 29 (.bin .add (.t 19) (.t 28)),
  oT 5 29] none))
 (.region [oT 17 6,
  oM 18 (.bin .add (.t 17) (.c (.int .i64 1))),
  oT 6 18] none))
-- pneumatic/pneumaticref05.count
def ic123 : IC := .seq (.region [oM 2 (.box (.t 0)),
  oM 4 (.mov (.c (.int .i64 0)))] none)
 (.seq (.region [oM 5 (.mov (.c (.int .i64 1)))] none)
 (.seq (.seq (.region [oM 6 (.mov (.c (.int .i64 0)))] none)
 (.block 0 (.loop zx6)))
 (.seq (.region [oT 30 5,
  oT 4 30] none)
 (.ret))))
theorem fn123 : env0.fn 123 = some ⟨31, ic123, [.t 4]⟩ := by kernel_rfl
set_option maxHeartbeats 2000000 in
theorem count72 : ∀ (q : Nat) (x : Ex) (z : Int), SizeOf.sizeOf x ≤ q → Slim x → 0 ≤ z → z ≤ 256 → PF Try.prog 123 [.agg (cX x), .int .i64 z] (.int .i64 (cnt z x)) := by
 intro q
 induction q with
 | zero => intro x z hq; cases x; simp at hq
 | succ q ih =>
  intro x z hq hs h0 hz
  obtain ⟨op, ix, args⟩ := x
  obtain ⟨hlen, hsl⟩ := zqt hs
  refine zb1 env0_ok fn123 [(0, .agg (cX (.nd op ix args))), (1, .int .i64 z)] (by show 2 ≤ 31; decide) rfl fun w0 N0 => ?_
  unfold ic123
  have hd : cnt z (.nd op ix args) = zrk z 1 args := by rw [cnt]
  rw [hd]
  repeat (first | refine za8 ?_ | refine za5 rfl ?_ | refine zai ?_ | refine zaa ?_ | refine zac ?_ | refine za1 rfl ?_ | refine zc1 rfl rfl ?_)
  refine zbu (fun mm S => ∃ i nn, mm = args.length - i ∧ i ≤ args.length ∧ 1 ≤ nn ∧ nn ≤ z + 1 ∧ zrk z 1 args = zrk z nn (args.drop i) ∧
    S = st 31 [(1, .int .i64 z), (2, .mptr 0 0 0), (5, .int .i64 nn), (6, .int .i64 (i : Nat))] [(0, 0, .cells (cX (.nd op ix args)))] 1 1) args.length
   (zan (.cons rfl (.cons rfl (.cons rfl (.cons rfl .nil))))) ⟨0, 1, rfl, y0t _, by omega, by omega, rfl, rfl⟩ ?_
  rintro mm S ⟨i, nn, rfl, hi, hn1, hn2, hall, rfl⟩
  unfold zx6
  refine za8 (zsr rfl (za1 rfl (za9 rfl (za7 rfl rfl (zbd rfl rfl ?_)))))
  refine zaq rfl rfl rfl (fun h3 => ?_) fun h3 => ?_
  ·have hlt : i < args.length := by
    have := of_decide_eq_true h3
    rw [zb0] at this
    omega
   have hdr : args.drop i = args[i] :: args.drop (i + 1) := y0g hlt
   rw [hdr] at hall
   have hge := zf9 hlt
   have hmem : args[i] ∈ args := y0y hlt
   generalize args[i] = y at hall hge hmem
   obtain ⟨yo, yi, ya⟩ := y
   repeat (first | refine zbc rfl ?_ | refine za1 rfl ?_)
   refine zaq rfl rfl rfl (fun h4 => ?_) fun h4 => ?_
   ·have h4 := of_decide_eq_true h4
    rw [zrk, if_pos h4] at hall
    refine zat rfl rfl (onu (zb4 rfl (zab (zaa (za8 (zac (za5 rfl (za1 rfl (za9 rfl (za7 rfl rfl (za1 rfl ?_)))))))))))
    refine zbh rfl rfl (y1b i) hge rfl ?_
    refine zam rfl rfl rfl rfl (za1 rfl (za1 rfl (zb6 (op := .sub) rfl rfl rfl ?_)))
    rw [show IntKind.wrap .i64 (z - nn) = z - nn from wrap_small _ (by omega) (by omega)]
    refine zap rfl rfl (ih (.nd yo yi ya) (z - nn) (by have := zuq (op := op) (ix := ix) hmem; omega) (hsl _ hmem) (by omega) (by omega)) noC ?_
    have hb := zmh (z - nn) (by omega) (.nd yo yi ya)
    refine zb6 (op := .add) rfl rfl rfl (za1 rfl (zai (zb7 (zaa (za5 rfl (za1 rfl (zb6 (op := .add) rfl rfl rfl (za1 rfl (zai ?_)))))))))
    rw [zas i (by omega), show IntKind.wrap .i64 (nn + cnt (z - nn) (.nd yo yi ya)) = nn + cnt (z - nn) (.nd yo yi ya) from wrap_small _ (by omega) (by omega)]
    exact zav (show args.length - (i + 1) < args.length - i by omega) (zan (.cons rfl (.cons rfl (.cons rfl (.cons rfl .nil))))) ⟨i + 1, _, rfl, hlt, by omega, by omega, hall, rfl⟩
   ·have h4 := of_decide_eq_false h4
    rw [zrk, if_neg h4] at hall
    refine zat rfl rfl (onu (zb8 rfl (zbm (zao ?_))))
    refine zcn ?_
    refine zbl (zaa (zsr rfl (za1 rfl (za1 rfl (onu (zak ?_))))))
    refine zaf ⟨.inr rfl, _, rfl, ?_⟩
    rw [hall]
    rfl
  ·have hi2 : i = args.length := by
    have := of_decide_eq_false h3
    rw [zb0] at this
    omega
   refine za1 rfl (zbz rfl rfl (zbz rfl rfl (zbz rfl rfl (zal rfl rfl (onu (zb8 rfl (zbm (zao ?_))))))))
   refine zcn ?_
   refine zbl (zaa (zsr rfl (za1 rfl (za1 rfl (onu (zak ?_))))))
   refine zaf ⟨.inr rfl, _, rfl, ?_⟩
   subst hi2
   rw [hall, y0s, zrk]
   rfl
end Go.Proofs.Ytoiblgbaeglgoaa
namespace Go.Proofs.Ytoiblgbaeglgoaa
open Go Go.Am
-- pneumatic/pneumaticref05.node
def ic162 : IC := .seq (.region [oM 2 (.box (.t 0)),
  oM 4 (.mov (.c (.int .i64 0)))] none)
 (.seq (.seq (.region [oF 7 0 2,
  oN 8 7,
  oM 9 (.bin .lss (.t 8) (.c (.int .i64 0))),
  oT 10 9,
  ⟨(some 11), .faddr 0 (.t 2), some (10, false)⟩,
  ⟨(some 12), .load none (.t 11), some (10, false)⟩,
  ⟨(some 13), .bin .geq (.t 12) (.c (.int .i64 5)), some (10, false)⟩,
  oM 14 (.pick (.t 10) (.c (.bool true)) (.t 13))] none)
 (.cond (.t 14) (.seq (.region [oM 4 (.mov (.c (.int .i64 1)))] none)
 (.ret))
 (.skip)))
 (.seq (.region [oF 15 2 2,
  oN 16 15,
  oM 17 (.len false (.t 16)),
  oT 5 17] none)
 (.seq (.seq (.region [oF 18 0 2,
  oN 19 18,
  oM 20 (.bin .leq (.t 19) (.c (.int .i64 1))),
  oT 21 20,
  ⟨(some 22), .mov (.t 5), some (21, true)⟩,
  ⟨(some 23), .bin .neq (.t 22) (.c (.int .i64 0)), some (21, true)⟩,
  oM 24 (.pick (.t 21) (.t 23) (.c (.bool false))),
  oT 25 24,
  ⟨(some 26), .faddr 0 (.t 2), some (25, false)⟩,
  ⟨(some 27), .load none (.t 26), some (25, false)⟩,
  ⟨(some 28), .bin .eql (.t 27) (.c (.int .i64 2)), some (25, false)⟩,
  ⟨(some 29), .mov (.t 28), some (25, false)⟩,
  ⟨(some 30), .mov (.t 5), some (29, true)⟩,
  ⟨(some 31), .bin .neq (.t 30) (.c (.int .i64 1)), some (29, true)⟩,
  ⟨(some 32), .pick (.t 29) (.t 31) (.c (.bool false)), some (25, false)⟩,
  oM 33 (.pick (.t 25) (.c (.bool true)) (.t 32)),
  oT 34 33,
  ⟨(some 35), .faddr 0 (.t 2), some (34, false)⟩,
  ⟨(some 36), .load none (.t 35), some (34, false)⟩,
  ⟨(some 37), .bin .geq (.t 36) (.c (.int .i64 3)), some (34, false)⟩,
  ⟨(some 38), .mov (.t 37), some (34, false)⟩,
  ⟨(some 39), .mov (.t 5), some (38, true)⟩,
  ⟨(some 40), .bin .lss (.t 39) (.c (.int .i64 2)), some (38, true)⟩,
  ⟨(some 41), .pick (.t 38) (.t 40) (.c (.bool false)), some (34, false)⟩,
  oM 42 (.pick (.t 34) (.c (.bool true)) (.t 41))] none)
 (.cond (.t 42) (.seq (.region [oM 4 (.mov (.c (.int .i64 3)))] none)
 (.ret))
 (.skip)))
 (.seq (.region [oM 6 (.mov (.c (.int .i64 1)))] none)
 (.seq (.seq (.region [oF 43 0 2,
  oN 44 43,
  oM 45 (.bin .eql (.t 44) (.c (.int .i64 0)))] none)
 (.cond (.t 45) (.region [oM 6 (.mov (.c (.int .i64 2)))] none)
 (.skip)))
 (.seq (.seq (.region [oF 46 0 2,
  oN 47 46,
  oM 48 (.bin .eql (.t 47) (.c (.int .i64 1)))] none)
 (.cond (.t 48) (.region [oT 49 1,
  oT 6 49] none)
 (.skip)))
 (.seq (.seq (.region [oF 50 1 2,
  oN 51 50,
  oM 52 (.bin .lss (.t 51) (.c (.int .i64 0))),
  oT 53 52,
  ⟨(some 54), .faddr 1 (.t 2), some (53, false)⟩,
  ⟨(some 55), .load none (.t 54), some (53, false)⟩,
  ⟨(some 56), .mov (.t 6), some (53, false)⟩,
  ⟨(some 57), .bin .geq (.t 55) (.t 56), some (53, false)⟩,
  oM 58 (.pick (.t 53) (.c (.bool true)) (.t 57))] none)
 (.cond (.t 58) (.seq (.region [oM 4 (.mov (.c (.int .i64 2)))] none)
 (.ret))
 (.skip)))
 (.seq (.region [oM 4 (.mov (.c (.int .i64 0)))] none)
 (.ret)))))))))
theorem fn162 : env0.fn 162 = some ⟨59, ic162, [.t 4]⟩ := by kernel_rfl
set_option maxHeartbeats 4000000 in
theorem node104 (op ix n : Int) (args : List Ex) (hk : args.length ≤ 256) : PF Try.prog 162 [.agg (cX (.nd op ix args)), .int .i64 n] (.int .i64 (zbv op ix args.length n)) := by
 refine zb1 env0_ok fn162 [(0, .agg (cX (.nd op ix args))), (1, .int .i64 n)] (by show 2 ≤ 59; decide) rfl fun w0 N0 => ?_
 unfold ic162
 refine zsr rfl (zc1 rfl rfl (za1 rfl (onu (za8 (zsr rfl (za9 rfl (za7 rfl rfl ?_)))))))
 refine zaq rfl rfl rfl (fun h1 => ?_) fun h1 => ?_
 ·have h1 := of_decide_eq_true h1
  refine za1 rfl (zbz rfl rfl (zbz rfl rfl (zbz rfl rfl (zat rfl rfl (onu (zb4 rfl (zsr rfl (za1 rfl (onu (zak ?_))))))))))
  refine za4 ?_
  refine zaf ⟨.inr rfl, _, rfl, ?_⟩
  unfold zbv
  rw [if_pos (.inl h1)]
  rfl
 have h1 := of_decide_eq_false h1
 refine za1 rfl (zbc rfl (za9 rfl (zbc rfl (za7 rfl rfl (zbc rfl ?_)))))
 refine zaq rfl rfl rfl (fun h2 => ?_) fun h2 => ?_
 ·have h2 := of_decide_eq_true h2
  refine zal rfl rfl (onu (zb4 rfl (zsr rfl (za1 rfl (onu (zak (za4 ?_)))))))
  refine zaf ⟨.inr rfl, _, rfl, ?_⟩
  unfold zbv
  rw [if_pos (.inr h2)]
  rfl
 have h2 := of_decide_eq_false h2
 have hlen : ((cXs args).length : Int) = (args.length : Int) := by rw [zb0]
 have hop : op = 0 ∨ op = 1 ∨ op = 2 ∨ op = 3 ∨ op = 4 := by omega
 rcases hop with rfl | rfl | rfl | rfl | rfl
 ·refine zal rfl rfl (onu (zb8 rfl (zab (zaa (zsr rfl (za9 rfl (za7 rfl rfl (zbd rfl rfl (za1 rfl (onu ?_))))))))))
  refine za8 (zsr rfl (za9 rfl (za7 rfl rfl (zby rfl rfl rfl (za1 rfl (zbc rfl (za1 rfl (zbc rfl ?_))))))))
  refine zaq rfl rfl rfl (fun h3 => ?_) fun h3 => ?_
  ·have h3 := bne_iff_ne.1 h3
   repeat (first | refine za8 ?_ | refine za5 rfl ?_ | refine zai ?_ | refine zaa ?_ | refine zb4 rfl ?_ | refine zak ?_ | refine za4 ?_ | refine zbz rfl rfl ?_ | refine o_gt rfl ?_ | refine za1 rfl ?_ | refine zat rfl rfl ?_)
   refine zaf ⟨.inr rfl, _, rfl, ?_⟩
   show AV.int .i64 3 = AV.int .i64 _
   exact congrArg _ (by simp (decide := true) only [zbv, zbg, zcd, zcf, if_true, if_false]; (repeat' split) <;> omega)
  have h3a : ((cXs args).length : Int) = 0 := by simpa using h3
  clear h3
  repeat (first | refine za8 ?_ | refine za5 rfl ?_ | refine zai ?_ | refine zaa ?_ | refine zab ?_ | refine zb4 rfl ?_ | refine zb8 rfl ?_ | refine zbc rfl ?_ | refine zbz rfl rfl ?_ | refine za1 rfl ?_ | refine za7 rfl rfl ?_ | refine za9 rfl ?_ | refine zat rfl rfl ?_ | refine zal rfl rfl ?_ | refine zby rfl rfl rfl ?_ | refine zci rfl rfl rfl ?_)
  refine zaq rfl rfl rfl (fun h4 => ?_) fun h4 => ?_
  ·have h4 := of_decide_eq_true h4
   refine za1 rfl (zbz rfl rfl (zbz rfl rfl (zbz rfl rfl (zbz rfl rfl (zat rfl rfl (onu (zb4 rfl (zsr rfl (za1 rfl (onu ?_))))))))))
   refine zak (za4 ?_)
   refine zaf ⟨.inr rfl, _, rfl, ?_⟩
   show AV.int .i64 2 = AV.int .i64 _
   exact congrArg _ (by simp (decide := true) only [zbv, zbg, zcd, zcf, if_true, if_false]; (repeat' split) <;> omega)
  have h4a := of_decide_eq_false h4
  clear h4
  refine za1 rfl (zbc rfl (za9 rfl (zbc rfl (za7 rfl rfl (zbc rfl (za1 rfl (zbc rfl ?_)))))))
  refine zaq rfl rfl rfl (fun h4 => ?_) fun h4 => ?_
  ·have h4 := of_decide_eq_true h4
   refine zal rfl rfl (onu (zb4 rfl (zsr rfl (za1 rfl (onu (zak (za4 ?_)))))))
   refine zaf ⟨.inr rfl, _, rfl, ?_⟩
   show AV.int .i64 2 = AV.int .i64 _
   exact congrArg _ (by simp (decide := true) only [zbv, zbg, zcd, zcf, if_true, if_false]; (repeat' split) <;> omega)
  have h4b := of_decide_eq_false h4
  refine zal rfl rfl (onu (zb8 rfl (zab (zaa (zsr rfl (za1 rfl (onu (zak ?_))))))))
  refine zaf ⟨.inr rfl, _, rfl, ?_⟩
  show AV.int .i64 0 = AV.int .i64 _
  exact congrArg _ (by simp (decide := true) only [zbv, zbg, zcd, zcf, if_true, if_false]; (repeat' split) <;> omega)
 ·refine zal rfl rfl (onu (zb8 rfl (zab (zaa (zsr rfl (za9 rfl (za7 rfl rfl (zbd rfl rfl (za1 rfl (onu ?_))))))))))
  refine za8 (zsr rfl (za9 rfl (za7 rfl rfl (zby rfl rfl rfl (za1 rfl (zbc rfl (za1 rfl (zbc rfl ?_))))))))
  refine zaq rfl rfl rfl (fun h3 => ?_) fun h3 => ?_
  ·have h3 := bne_iff_ne.1 h3
   repeat (first | refine za8 ?_ | refine za5 rfl ?_ | refine zai ?_ | refine zaa ?_ | refine zb4 rfl ?_ | refine zak ?_ | refine za4 ?_ | refine zbz rfl rfl ?_ | refine o_gt rfl ?_ | refine za1 rfl ?_ | refine zat rfl rfl ?_)
   refine zaf ⟨.inr rfl, _, rfl, ?_⟩
   show AV.int .i64 3 = AV.int .i64 _
   exact congrArg _ (by simp (decide := true) only [zbv, zbg, zcd, zcf, if_true, if_false]; (repeat' split) <;> omega)
  have h3a : ((cXs args).length : Int) = 0 := by simpa using h3
  clear h3
  repeat (first | refine za8 ?_ | refine za5 rfl ?_ | refine zai ?_ | refine zaa ?_ | refine zab ?_ | refine zb4 rfl ?_ | refine zb8 rfl ?_ | refine zbc rfl ?_ | refine zbz rfl rfl ?_ | refine za1 rfl ?_ | refine za7 rfl rfl ?_ | refine za9 rfl ?_ | refine zat rfl rfl ?_ | refine zal rfl rfl ?_ | refine zby rfl rfl rfl ?_ | refine zci rfl rfl rfl ?_)
  refine zaq rfl rfl rfl (fun h4 => ?_) fun h4 => ?_
  ·have h4 := of_decide_eq_true h4
   refine za1 rfl (zbz rfl rfl (zbz rfl rfl (zbz rfl rfl (zbz rfl rfl (zat rfl rfl (onu (zb4 rfl (zsr rfl (za1 rfl (onu ?_))))))))))
   refine zak (za4 ?_)
   refine zaf ⟨.inr rfl, _, rfl, ?_⟩
   show AV.int .i64 2 = AV.int .i64 _
   exact congrArg _ (by simp (decide := true) only [zbv, zbg, zcd, zcf, if_true, if_false]; (repeat' split) <;> omega)
  have h4a := of_decide_eq_false h4
  clear h4
  refine za1 rfl (zbc rfl (za9 rfl (zbc rfl (za7 rfl rfl (zbc rfl (za1 rfl (zbc rfl ?_)))))))
  refine zaq rfl rfl rfl (fun h4 => ?_) fun h4 => ?_
  ·have h4 := of_decide_eq_true h4
   refine zal rfl rfl (onu (zb4 rfl (zsr rfl (za1 rfl (onu (zak (za4 ?_)))))))
   refine zaf ⟨.inr rfl, _, rfl, ?_⟩
   show AV.int .i64 2 = AV.int .i64 _
   exact congrArg _ (by simp (decide := true) only [zbv, zbg, zcd, zcf, if_true, if_false]; (repeat' split) <;> omega)
  have h4b := of_decide_eq_false h4
  refine zal rfl rfl (onu (zb8 rfl (zab (zaa (zsr rfl (za1 rfl (onu (zak ?_))))))))
  refine zaf ⟨.inr rfl, _, rfl, ?_⟩
  show AV.int .i64 0 = AV.int .i64 _
  exact congrArg _ (by simp (decide := true) only [zbv, zbg, zcd, zcf, if_true, if_false]; (repeat' split) <;> omega)
 ·repeat (first | refine za8 ?_ | refine za5 rfl ?_ | refine zai ?_ | refine zaa ?_ | refine zab ?_ | refine zb8 rfl ?_ | refine zbc rfl ?_ | refine zbz rfl rfl ?_ | refine za1 rfl ?_ | refine za7 rfl rfl ?_ | refine za9 rfl ?_ | refine zal rfl rfl ?_ | refine zbd rfl rfl ?_ | refine zby rfl rfl rfl ?_ | refine zci rfl rfl rfl ?_)
  refine zaq rfl rfl rfl (fun h3 => ?_) fun h3 => ?_
  ·have h3 := bne_iff_ne.1 h3
   refine zbc rfl (zat rfl rfl (zal rfl rfl (za1 rfl (zbz rfl rfl (zbz rfl rfl (zbz rfl rfl (zbz rfl rfl (o_gt rfl (o_gt rfl (zbz rfl rfl (zat rfl rfl (onu ?_))))))))))))
   refine zb4 rfl (zsr rfl (za1 rfl (onu (zak (za4 ?_)))))
   refine zaf ⟨.inr rfl, _, rfl, ?_⟩
   show AV.int .i64 3 = AV.int .i64 _
   exact congrArg _ (by simp (decide := true) only [zbv, zbg, zcd, zcf, if_true, if_false]; (repeat' split) <;> omega)
  have h3a : ((cXs args).length : Int) = 1 := by simpa using h3
  clear h3
  repeat (first | refine za8 ?_ | refine za5 rfl ?_ | refine zai ?_ | refine zaa ?_ | refine zab ?_ | refine zb8 rfl ?_ | refine zbc rfl ?_ | refine zbz rfl rfl ?_ | refine za1 rfl ?_ | refine za7 rfl rfl ?_ | refine za9 rfl ?_ | refine zat rfl rfl ?_ | refine zal rfl rfl ?_ | refine zci rfl rfl rfl ?_)
  refine zaq rfl rfl rfl (fun h4 => ?_) fun h4 => ?_
  ·have h4 := of_decide_eq_true h4
   refine za1 rfl (zbz rfl rfl (zbz rfl rfl (zbz rfl rfl (zbz rfl rfl (zat rfl rfl (onu (zb4 rfl (zsr rfl (za1 rfl (onu ?_))))))))))
   refine zak (za4 ?_)
   refine zaf ⟨.inr rfl, _, rfl, ?_⟩
   show AV.int .i64 2 = AV.int .i64 _
   exact congrArg _ (by simp (decide := true) only [zbv, zbg, zcd, zcf, if_true, if_false]; (repeat' split) <;> omega)
  have h4a := of_decide_eq_false h4
  clear h4
  refine za1 rfl (zbc rfl (za9 rfl (zbc rfl (za7 rfl rfl (zbc rfl (za1 rfl (zbc rfl ?_)))))))
  refine zaq rfl rfl rfl (fun h4 => ?_) fun h4 => ?_
  ·have h4 := of_decide_eq_true h4
   refine zal rfl rfl (onu (zb4 rfl (zsr rfl (za1 rfl (onu (zak (za4 ?_)))))))
   refine zaf ⟨.inr rfl, _, rfl, ?_⟩
   show AV.int .i64 2 = AV.int .i64 _
   exact congrArg _ (by simp (decide := true) only [zbv, zbg, zcd, zcf, if_true, if_false]; (repeat' split) <;> omega)
  have h4b := of_decide_eq_false h4
  refine zal rfl rfl (onu (zb8 rfl (zab (zaa (zsr rfl (za1 rfl (onu (zak ?_))))))))
  refine zaf ⟨.inr rfl, _, rfl, ?_⟩
  show AV.int .i64 0 = AV.int .i64 _
  exact congrArg _ (by simp (decide := true) only [zbv, zbg, zcd, zcf, if_true, if_false]; (repeat' split) <;> omega)
 ·repeat (first | refine za8 ?_ | refine za5 rfl ?_ | refine zai ?_ | refine zaa ?_ | refine zab ?_ | refine zb8 rfl ?_ | refine zbc rfl ?_ | refine zbz rfl rfl ?_ | refine za1 rfl ?_ | refine za7 rfl rfl ?_ | refine za9 rfl ?_ | refine zal rfl rfl ?_ | refine zbd rfl rfl ?_ | refine zby rfl rfl rfl ?_ | refine zci rfl rfl rfl ?_)
  refine zaq rfl rfl rfl (fun h3 => ?_) fun h3 => ?_
  ·have h3 := of_decide_eq_true h3
   refine zbc rfl (zat rfl rfl (zal rfl rfl (onu (zb4 rfl (zsr rfl (za1 rfl (onu (zak (za4 ?_)))))))))
   refine zaf ⟨.inr rfl, _, rfl, ?_⟩
   show AV.int .i64 3 = AV.int .i64 _
   exact congrArg _ (by simp (decide := true) only [zbv, zbg, zcd, zcf, if_true, if_false]; (repeat' split) <;> omega)
  have h3a := of_decide_eq_false h3
  clear h3
  repeat (first | refine za8 ?_ | refine za5 rfl ?_ | refine zai ?_ | refine zaa ?_ | refine zab ?_ | refine zb8 rfl ?_ | refine zbc rfl ?_ | refine za1 rfl ?_ | refine za7 rfl rfl ?_ | refine za9 rfl ?_ | refine zat rfl rfl ?_ | refine zal rfl rfl ?_ | refine zci rfl rfl rfl ?_)
  refine zaq rfl rfl rfl (fun h4 => ?_) fun h4 => ?_
  ·have h4 := of_decide_eq_true h4
   refine za1 rfl (zbz rfl rfl (zbz rfl rfl (zbz rfl rfl (zbz rfl rfl (zat rfl rfl (onu (zb4 rfl (zsr rfl (za1 rfl (onu ?_))))))))))
   refine zak (za4 ?_)
   refine zaf ⟨.inr rfl, _, rfl, ?_⟩
   show AV.int .i64 2 = AV.int .i64 _
   exact congrArg _ (by simp (decide := true) only [zbv, zbg, zcd, zcf, if_true, if_false]; (repeat' split) <;> omega)
  have h4a := of_decide_eq_false h4
  clear h4
  refine za1 rfl (zbc rfl (za9 rfl (zbc rfl (za7 rfl rfl (zbc rfl (za1 rfl (zbc rfl ?_)))))))
  refine zaq rfl rfl rfl (fun h4 => ?_) fun h4 => ?_
  ·have h4 := of_decide_eq_true h4
   refine zal rfl rfl (onu (zb4 rfl (zsr rfl (za1 rfl (onu (zak (za4 ?_)))))))
   refine zaf ⟨.inr rfl, _, rfl, ?_⟩
   show AV.int .i64 2 = AV.int .i64 _
   exact congrArg _ (by simp (decide := true) only [zbv, zbg, zcd, zcf, if_true, if_false]; (repeat' split) <;> omega)
  have h4b := of_decide_eq_false h4
  refine zal rfl rfl (onu (zb8 rfl (zab (zaa (zsr rfl (za1 rfl (onu (zak ?_))))))))
  refine zaf ⟨.inr rfl, _, rfl, ?_⟩
  show AV.int .i64 0 = AV.int .i64 _
  exact congrArg _ (by simp (decide := true) only [zbv, zbg, zcd, zcf, if_true, if_false]; (repeat' split) <;> omega)
 ·repeat (first | refine za8 ?_ | refine za5 rfl ?_ | refine zai ?_ | refine zaa ?_ | refine zab ?_ | refine zb8 rfl ?_ | refine zbc rfl ?_ | refine zbz rfl rfl ?_ | refine za1 rfl ?_ | refine za7 rfl rfl ?_ | refine za9 rfl ?_ | refine zal rfl rfl ?_ | refine zbd rfl rfl ?_ | refine zby rfl rfl rfl ?_ | refine zci rfl rfl rfl ?_)
  refine zaq rfl rfl rfl (fun h3 => ?_) fun h3 => ?_
  ·have h3 := of_decide_eq_true h3
   refine zbc rfl (zat rfl rfl (zal rfl rfl (onu (zb4 rfl (zsr rfl (za1 rfl (onu (zak (za4 ?_)))))))))
   refine zaf ⟨.inr rfl, _, rfl, ?_⟩
   show AV.int .i64 3 = AV.int .i64 _
   exact congrArg _ (by simp (decide := true) only [zbv, zbg, zcd, zcf, if_true, if_false]; (repeat' split) <;> omega)
  have h3a := of_decide_eq_false h3
  clear h3
  repeat (first | refine za8 ?_ | refine za5 rfl ?_ | refine zai ?_ | refine zaa ?_ | refine zab ?_ | refine zb8 rfl ?_ | refine zbc rfl ?_ | refine za1 rfl ?_ | refine za7 rfl rfl ?_ | refine za9 rfl ?_ | refine zat rfl rfl ?_ | refine zal rfl rfl ?_ | refine zci rfl rfl rfl ?_)
  refine zaq rfl rfl rfl (fun h4 => ?_) fun h4 => ?_
  ·have h4 := of_decide_eq_true h4
   refine za1 rfl (zbz rfl rfl (zbz rfl rfl (zbz rfl rfl (zbz rfl rfl (zat rfl rfl (onu (zb4 rfl (zsr rfl (za1 rfl (onu ?_))))))))))
   refine zak (za4 ?_)
   refine zaf ⟨.inr rfl, _, rfl, ?_⟩
   show AV.int .i64 2 = AV.int .i64 _
   exact congrArg _ (by simp (decide := true) only [zbv, zbg, zcd, zcf, if_true, if_false]; (repeat' split) <;> omega)
  have h4a := of_decide_eq_false h4
  clear h4
  refine za1 rfl (zbc rfl (za9 rfl (zbc rfl (za7 rfl rfl (zbc rfl (za1 rfl (zbc rfl ?_)))))))
  refine zaq rfl rfl rfl (fun h4 => ?_) fun h4 => ?_
  ·have h4 := of_decide_eq_true h4
   refine zal rfl rfl (onu (zb4 rfl (zsr rfl (za1 rfl (onu (zak (za4 ?_)))))))
   refine zaf ⟨.inr rfl, _, rfl, ?_⟩
   show AV.int .i64 2 = AV.int .i64 _
   exact congrArg _ (by simp (decide := true) only [zbv, zbg, zcd, zcf, if_true, if_false]; (repeat' split) <;> omega)
  have h4b := of_decide_eq_false h4
  refine zal rfl rfl (onu (zb8 rfl (zab (zaa (zsr rfl (za1 rfl (onu (zak ?_))))))))
  refine zaf ⟨.inr rfl, _, rfl, ?_⟩
  show AV.int .i64 0 = AV.int .i64 _
  exact congrArg _ (by simp (decide := true) only [zbv, zbg, zcd, zcf, if_true, if_false]; (repeat' split) <;> omega)
inductive Thin : Ex → Prop
 | nd {op ix : Int} {args : List Ex} (h : args.length ≤ 256) (k : ∀ y ∈ args, Thin y) : Thin (.nd op ix args)
theorem yal {op ix : Int} {args : List Ex} (h : Thin (.nd op ix args)) : args.length ≤ 256 ∧ ∀ y ∈ args, Thin y := by
 cases h with | nd h k => exact ⟨h, k⟩
mutual
def nds (n : Int) : Ex → Int
 | .nd op ix args => if zbv op ix args.length n = 0 then zw3 n args else zbv op ix args.length n
def zw3 (n : Int) : List Ex → Int
 | [] => 0
 | y :: ys => if nds n y = 0 then zw3 n ys else nds n y
end
def zx8 : IC := .seq (.seq (.region [oT 14 6,
  oF 15 2 2,
  oN 16 15,
  oM 17 (.len false (.t 16)),
  oM 18 (.bin .lss (.t 14) (.t 17))] none)
 (.cond (.t 18) (.skip)
 (.exit 0)))
 (.seq (.block 1 (.seq (.region [oF 21 2 2,
  oN 22 21,
  oT 23 6,
  oM 24 (.idxs 3 (.t 22) (.t 23)),
  oL 25 3 24,
  oT 26 1,
  oM 27 (.call (.c (.fn 147 [] [])) [(.t 25), (.t 26)]),
  oT 7 27] none)
 (.seq (.region [oT 28 7,
  oM 29 (.bin .neq (.t 28) (.c (.int .i64 0)))] none)
 (.cond (.t 29) (.seq (.region [oT 30 7,
  oT 4 30] none)
 (.ret))
 (.skip)))))
 (.region [oT 19 6,
  oM 20 (.bin .add (.t 19) (.c (.int .i64 1))),
  oT 6 20] none))
-- pneumatic/pneumaticref05.nodes
def ic147 : IC := .seq (.region [oM 2 (.box (.t 0)),
  oM 4 (.mov (.c (.int .i64 0)))] none)
 (.seq (.seq (.region [oL 8 3 2,
  oT 9 1,
  oM 10 (.call (.c (.fn 162 [] [])) [(.t 8), (.t 9)]),
  oT 5 10] none)
 (.seq (.region [oT 11 5,
  oM 12 (.bin .neq (.t 11) (.c (.int .i64 0)))] none)
 (.cond (.t 12) (.seq (.region [oT 13 5,
  oT 4 13] none)
 (.ret))
 (.skip))))
 (.seq (.seq (.region [oM 6 (.mov (.c (.int .i64 0)))] none)
 (.block 0 (.loop zx8)))
 (.seq (.region [oM 4 (.mov (.c (.int .i64 0)))] none)
 (.ret))))
theorem fn147 : env0.fn 147 = some ⟨31, ic147, [.t 4]⟩ := by kernel_rfl
set_option maxHeartbeats 2000000 in
theorem nodes89 (z : Int) : ∀ (q : Nat) (x : Ex), SizeOf.sizeOf x ≤ q → Thin x → PF Try.prog 147 [.agg (cX x), .int .i64 z] (.int .i64 (nds z x)) := by
 intro q
 induction q with
 | zero => intro x hq; cases x; simp at hq
 | succ q ih =>
  intro x hq hs
  obtain ⟨op, ix, args⟩ := x
  obtain ⟨hlen, hsl⟩ := yal hs
  refine zb1 env0_ok fn147 [(0, .agg (cX (.nd op ix args))), (1, .int .i64 z)] (by show 2 ≤ 31; decide) rfl fun w0 N0 => ?_
  unfold ic147
  have hd : nds z (.nd op ix args) = if zbv op ix args.length z = 0 then zw3 z args else zbv op ix args.length z := by rw [nds]
  rw [hd]
  refine zsr rfl (zc1 rfl rfl (za1 rfl (onu (za8 (zsr rfl (zam rfl rfl rfl rfl (za1 rfl ?_)))))))
  refine zap rfl rfl (node104 op ix z args hlen) noC ?_
  refine za1 rfl (onr rfl (za1 rfl ?_))
  refine zaq rfl rfl rfl (fun h3 => ?_) fun h3 => ?_
  ·have h3 := bne_iff_ne.1 h3
   rw [if_neg h3]
   refine onu (zb4 rfl (zsr rfl (za1 rfl (za1 rfl (onu (zak (za4 ?_)))))))
   exact zaf ⟨.inr rfl, _, rfl, rfl⟩
  have h3 : zbv op ix args.length z = 0 := by simpa using h3
  rw [if_pos h3]
  refine onu (zb8 rfl (zab (zaa (za8 (zsr rfl (za1 rfl (onu (zac ?_))))))))
  refine zbu (fun mm S => ∃ i, mm = args.length - i ∧ i ≤ args.length ∧ zw3 z args = zw3 z (args.drop i) ∧
    S = st 31 [(1, .int .i64 z), (2, .mptr 0 0 0), (6, .int .i64 (i : Nat))] [(0, 0, .cells (cX (.nd op ix args)))] 1 1) args.length
   (zan (.cons rfl (.cons rfl (.cons rfl .nil)))) ⟨0, rfl, y0t _, rfl, rfl⟩ ?_
  rintro mm S ⟨i, rfl, hi, hall, rfl⟩
  unfold zx8
  refine za8 (zsr rfl (za1 rfl (za9 rfl (za7 rfl rfl (zbd rfl rfl ?_)))))
  refine zaq rfl rfl rfl (fun h3 => ?_) fun h3 => ?_
  ·have hlt : i < args.length := by
    have := of_decide_eq_true h3
    rw [zb0] at this
    omega
   have hdr : args.drop i = args[i] :: args.drop (i + 1) := y0g hlt
   rw [hdr] at hall
   have hge := zf9 hlt
   have hmem : args[i] ∈ args := y0y hlt
   generalize args[i] = y at hall hge hmem
   obtain ⟨yo, yi, ya⟩ := y
   rw [zw3] at hall
   refine onu (zb4 rfl (zab (zaa (za8 (zac (zsr rfl (za9 rfl (za7 rfl rfl (za1 rfl ?_)))))))))
   refine zbh rfl rfl (y1b i) hge rfl ?_
   refine zam rfl rfl rfl rfl (za1 rfl ?_)
   refine zap rfl rfl (ih (.nd yo yi ya) (by have := zuq (op := op) (ix := ix) hmem; omega) (hsl _ hmem)) noC ?_
   refine za1 rfl (onr rfl (za1 rfl ?_))
   refine zaq rfl rfl rfl (fun h4 => ?_) fun h4 => ?_
   ·have h4 := bne_iff_ne.1 h4
    rw [if_neg h4] at hall
    refine onu (zb4 rfl (zsr rfl (za1 rfl (za1 rfl (onu (zak (zag (za4 ?_))))))))
    refine zbb ?_
    refine zag (za4 ?_)
    refine zaf ⟨.inr rfl, _, rfl, ?_⟩
    rw [hall]
    rfl
   ·have h4 : nds z (.nd yo yi ya) = 0 := by simpa using h4
    rw [if_pos h4] at hall
    refine onu (zb8 rfl (zab (zb7 (zaa (za5 rfl (za1 rfl (zb6 (op := .add) rfl rfl rfl (za1 rfl (zai ?_)))))))))
    rw [zas i (by omega)]
    exact zav (show args.length - (i + 1) < args.length - i by omega) (zan (.cons rfl (.cons rfl (.cons rfl .nil)))) ⟨i + 1, rfl, hlt, hall, rfl⟩
  ·have hi2 : i = args.length := by
    have := of_decide_eq_false h3
    rw [zb0] at this
    omega
   refine onu (zb8 rfl (zbm (zao ?_)))
   refine zcn ?_
   refine zbl (zaa (zsr rfl (za1 rfl (onu (zak ?_)))))
   refine zaf ⟨.inr rfl, _, rfl, ?_⟩
   subst hi2
   rw [hall, y0s, zw3]
   rfl
end Go.Proofs.Ytoiblgbaeglgoaa
