/-
  R1, R2, R3, R4, R5, R6, R7, R8, R9 in one text.
-/
import Derived.Test.YtmnkjofaodbokaaYX1
namespace Go.Proofs.Ytmnkjofaodbokaa
open Go Go.Am
def body91 : IC := .seq (.region [⟨(some 18), .bin .lss (.t 17) (.t 16), none⟩] none)
 (.seq (.cond (.t 18) (.skip)
 (.exit 0))
 (.seq (.block 1 (.seq (.region [⟨(some 19), .idxs 3 (.t 15) (.t 17), none⟩,
  ⟨(some 20), .load (some 3) (.t 19), none⟩,
  ⟨(some 8), .alloc [.int .i64 0, .int .i64 0, .nils], none⟩,
  ⟨none, .store 3 (.t 8) (.t 20), none⟩] none)
 (.seq (.region [⟨(some 21), .mov (.t 1), none⟩,
  ⟨(some 22), .bin .leq (.t 21) (.c (.int .i64 16)), none⟩,
  ⟨(some 23), .mov (.t 22), none⟩,
  ⟨(some 24), .load none (.t 3), some (23, true)⟩,
  ⟨(some 25), .load (some 3) (.t 8), some (23, true)⟩,
  ⟨(some 26), .mov (.t 1), some (23, true)⟩,
  ⟨(some 27), .bin .add (.t 26) (.c (.int .i64 1)), some (23, true)⟩,
  ⟨(some 28), .call (.t 24) [(.t 25), (.t 27)], some (23, true)⟩,
  ⟨(some 29), .un .not (.t 28), some (23, true)⟩,
  ⟨(some 30), .pick (.t 23) (.t 29) (.c (.bool false)), none⟩] none)
 (.cond (.t 30) (.seq (.region [⟨(some 6), .mov (.c (.bool false)), none⟩] none)
 (.ret))
 (.skip)))))
 (.region [⟨(some 31), .bin .add (.t 17) (.c (.int .i64 1)), none⟩,
  ⟨(some 17), .mov (.t 31), none⟩] none)))
-- pneumatic/boolexp.preorder$1$1
def ic91 : IC := .seq (.region [⟨(some 4), .box (.t 0), none⟩,
  ⟨(some 6), .mov (.c (.bool false)), none⟩] none)
 (.seq (.seq (.region [⟨(some 9), .load none (.t 2), none⟩,
  ⟨(some 10), .mov (.t 1), none⟩,
  ⟨(some 11), .load (some 3) (.t 4), none⟩,
  ⟨(some 12), .call (.t 9) [(.t 10), (.t 11)], none⟩,
  ⟨(some 13), .un .not (.t 12), none⟩] none)
 (.cond (.t 13) (.seq (.region [⟨(some 6), .mov (.c (.bool false)), none⟩] none)
 (.ret))
 (.skip)))
 (.seq (.seq (.region [⟨(some 14), .faddr 2 (.t 4), none⟩,
  ⟨(some 15), .load none (.t 14), none⟩,
  ⟨(some 16), .len false (.t 15), none⟩,
  ⟨(some 17), .mov (.c (.int .i64 0)), none⟩] none)
 (.block 0 (.loop body91)))
 (.seq (.region [⟨(some 6), .mov (.c (.bool true)), none⟩] none)
 (.ret))))
theorem fn91 : env0.fn 91 = some ⟨32, ic91, [.t 6]⟩ := by kernel_rfl
structure Cap (M : Nat → Prop) (a sa b sb id sp : Nat) (H : HS) : Prop where
 na : ¬ M a
 nb : ¬ M b
 ha : Am.look a H.heap = some (sa, .cells [.yield id sp])
 hb : Am.look b H.heap = some (sb, .cells [.fn 91 [] [.mptr a sa 0, .mptr b sb 0]])
 la : a < H.next
 lb : b < H.next
theorem Cap.keep {M : Nat → Prop} {a sa b sb id sp : Nat} {H H' : HS} (h : Cap M a sa b sb id sp H) (k : Keep M H H') : Cap M a sa b sb id sp H' :=
 ⟨h.na, h.nb, (k.look a h.na h.la).trans h.ha, (k.look b h.nb h.lb).trans h.hb, Nat.lt_of_lt_of_le h.la k.next, Nat.lt_of_lt_of_le h.lb k.next⟩
section
variable {σ τ : Type} (step : σ → Int → Ex → σ ⊕ τ) (M : Nat → Prop) (I : σ → HS → Prop) (J : τ → HS → Prop)
def Left (H : HS) (o : σ ⊕ τ) (v : AV) (H' : HS) : Prop :=
 Keep M H H' ∧ match o with
  | .inl s => v = .bool true ∧ I s H'
  | .inr t => v = .bool false ∧ J t H'
variable {step M I J}
set_option maxHeartbeats 4000000 in
theorem visit102 {w0 : World} {N0 a sa b sb id sp : Nat} (hloc : Local M I) (hy : ∀ s d x H, I s H → CT Try.prog w0 N0 (.yield id sp) [.int .i64 d, .agg (cX x)] H (Left M I J H (step s d x))) :
  ∀ (n : Nat) (x : Ex) (d : Int) (H : HS) (s : σ), SizeOf.sizeOf x ≤ n → Slim x → 0 ≤ d → d ≤ 17 → I s H → Cap M a sa b sb id sp H →
   FT Try.prog w0 N0 91 [.agg (cX x), .int .i64 d, .mptr a sa 0, .mptr b sb 0] H (Left M I J H (zem step d x s)) := by
 intro n
 induction n with
 | zero => intro x d H s hn; cases x; simp at hn
 | succ n ih =>
  intro x d H s hn hw h0 h17 hI hC
  obtain ⟨op, ix, args⟩ := x
  refine zco env0_ok fn91 [(0, .agg (cX (.nd op ix args))), (1, .int .i64 d), (2, .mptr a sa 0), (3, .mptr b sb 0)] (by show 4 ≤ 32; decide) rfl ?_
  unfold ic91
  repeat (first | refine za7 ?_ | refine za0 rfl ?_ | refine za4 ?_ | refine za3 ?_ | refine za2 rfl ?_ | refine zc5 rfl rfl ?_)
  have hC1 := hC.keep (Keep.new M H (H.clk, .cells (cX (.nd op ix args))))
  refine ze3 rfl hC1.ha hC1.la rfl ?_
  repeat (first | refine za2 rfl ?_)
  refine zl3 rfl zb9 (Nat.lt_succ_self _) rfl rfl ?_
  refine zfw _ rfl rfl (hy s d (.nd op ix args) ⟨_, _, _⟩ (hloc.new hI _ _)) (fun _ _ _ _ hm => absurd hm List.not_mem_nil) fun v H2 hF => ?_
  obtain ⟨hK, hF⟩ := hF
  have hK2 : Keep M H H2 := (Keep.new M H _).trans hK
  have hC2 := hC.keep hK2
  obtain ⟨hlen, hsl⟩ : args.length < 9223372036854775808 ∧ ∀ y ∈ args, Slim y := by cases hw with | nd h k => exact ⟨h, k⟩
  have hwx : zem step d (.nd op ix args) s = match step s d (.nd op ix args) with | .inr t => .inr t | .inl s' => zex step d args s' := by rw [zem]; cases step s d (.nd op ix args) <;> rfl
  rw [hwx]
  cases hst : step s d (.nd op ix args) with
  | inr t =>
   rw [hst] at hF
   obtain ⟨rfl, hJ⟩ := hF
   repeat (first | refine za7 ?_ | refine za0 rfl ?_ | refine za4 ?_ | refine za3 ?_ | refine zbe rfl ?_ | refine zae ?_ | refine za6 ?_ | refine za2 rfl ?_ | refine ze6 rfl rfl ?_)
   exact zad ⟨.inr rfl, _, rfl, hK2, rfl, hJ⟩
  | inl s1 =>
   rw [hst] at hF
   obtain ⟨rfl, hI1⟩ := hF
   repeat (first | refine za7 ?_ | refine za0 rfl ?_ | refine za4 ?_ | refine za3 ?_ | refine zab ?_ | refine zbi rfl ?_ | refine za8 rfl ?_ | refine ze6 rfl rfl ?_)
   refine ze3 rfl ((hK.look H.next (fun hm => Nat.lt_irrefl _ (hloc.lt s H hI _ hm)) (Nat.lt_succ_self _)).trans zb9) (Nat.lt_of_lt_of_le (Nat.lt_succ_self _) hK.next) rfl ?_
   repeat (first | refine za4 ?_ | refine za3 ?_ | refine zai ?_ | refine za2 rfl ?_ | refine zb7 rfl rfl ?_)
   refine zdr (fun m S => ∃ i s' H', m = args.length - i ∧ i ≤ args.length ∧ zex step d args s1 = zex step d (args.drop i) s' ∧ I s' H' ∧ Keep M H H' ∧
     S = st 32 [(1, .int .i64 d), (3, .mptr b sb 0), (15, .vs (cXs args)), (16, .int .i64 (cXs args).length), (17, .int .i64 (i : Nat))] H'.heap H'.next H'.clk) args.length
    (zal (.cons rfl (.cons rfl (.cons rfl (.cons rfl (.cons rfl .nil)))))) ⟨0, s1, H2, rfl, Nat.zero_le _, rfl, hI1, hK2, rfl⟩ ?_
   rintro m S ⟨i, s', H', rfl, hi, hwl, hI', hK', rfl⟩
   have hC' := hC.keep hK'
   unfold body91
   repeat (first | refine za7 ?_ | refine za0 rfl ?_)
   refine zar rfl rfl rfl (fun h1 => ?_) fun h1 => ?_
   ·have hlt : i < args.length := by
     have := of_decide_eq_true h1
     rw [zb0] at this
     omega
    have hd : args.drop i = args[i] :: args.drop (i + 1) := List.drop_eq_getElem_cons hlt
    rw [hd] at hwl
    have hge := zf7 hlt
    have hmem : args[i] ∈ args := List.getElem_mem hlt
    generalize args[i] = y at hwl hge hmem
    obtain ⟨yo, yi, ya⟩ := y
    repeat (first | refine za7 ?_ | refine za0 rfl ?_ | refine za4 ?_ | refine za3 ?_ | refine zai ?_ | refine zab ?_ | refine zbe rfl ?_)
    refine zbu rfl rfl (Int.natCast_nonneg i) hge rfl ?_
    repeat (first | refine zap rfl rfl rfl rfl ?_ | refine zat ?_)
    refine zak rfl rfl rfl rfl zb9 rfl rfl ?_
    rw [zhs]
    repeat (first | refine za7 ?_ | refine za0 rfl ?_ | refine za4 ?_ | refine za3 ?_ | refine za2 rfl ?_)
    refine zar rfl rfl rfl (fun h2 => ?_) fun h2 => ?_
    ·have hd1 : d ≤ 16 := of_decide_eq_true h2
     repeat (first | refine zbz rfl ?_ | refine za2 rfl ?_)
     refine ze3 rfl ((zd1 hC'.lb).trans hC'.hb) (Nat.lt_succ_of_lt hC'.lb) rfl ?_
     repeat (first | refine zbz rfl ?_)
     refine zl3 rfl zb9 (Nat.lt_succ_self _) rfl rfl ?_
     repeat (first | refine zbz rfl ?_ | refine za2 rfl ?_ | refine zb8 (op := .add) rfl rfl rfl ?_)
     rw [show IntKind.wrap .i64 (d + 1) = d + 1 from wrap_small _ (by omega) (by omega)]
     refine zfw _ rfl rfl (ct_fn (ih (.nd yo yi ya) (d + 1) ⟨_, _, _⟩ s' (by have := zgm (op := op) (ix := ix) hmem; omega) (hsl _ hmem) (by omega) (by omega) (hloc.new hI' _ _) (hC'.keep (Keep.new M H' _)))) (fun _ _ _ _ hm => absurd hm List.not_mem_nil) fun v H3 hF3 => ?_
     obtain ⟨hK3, hF3⟩ := hF3
     have hK4 : Keep M H H3 := hK'.trans ((Keep.new M H' _).trans hK3)
     cases hwk : zem step (d + 1) (.nd yo yi ya) s' with
     | inr t =>
      rw [hwk] at hF3
      obtain ⟨rfl, hJ⟩ := hF3
      repeat (first | refine za7 ?_ | refine za0 rfl ?_ | refine za4 ?_ | refine za3 ?_ | refine zbe rfl ?_ | refine zae ?_ | refine za6 ?_ | refine zaf ?_ | refine zbz rfl ?_ | refine za2 rfl ?_ | refine zag rfl rfl ?_ | refine ze6 rfl rfl ?_)
      refine zjc ?_
      repeat (first | refine za6 ?_ | refine zaf ?_)
      refine zad ⟨.inr rfl, _, rfl, hK4, ?_⟩
      simp only [hwl, zex, if_pos hd1, hwk]
      exact ⟨trivial, hJ⟩
     | inl s2 =>
      rw [hwk] at hF3
      obtain ⟨rfl, hI2⟩ := hF3
      repeat (first | refine za0 rfl ?_ | refine za4 ?_ | refine za3 ?_ | refine zc2 ?_ | refine zab ?_ | refine zbi rfl ?_ | refine zbz rfl ?_ | refine za2 rfl ?_ | refine zag rfl rfl ?_ | refine ze6 rfl rfl ?_ | refine zb8 (op := .add) rfl rfl rfl ?_)
      rw [zbb i (by omega)]
      exact zcj (show args.length - (i + 1) < args.length - i by omega) (zal (.cons rfl (.cons rfl (.cons rfl (.cons rfl (.cons rfl .nil)))))) ⟨i + 1, s2, H3, rfl, hlt, by rw [hwl]; simp only [zex, if_pos hd1, hwk], hI2, hK4, rfl⟩
    ·have hd1 : ¬ d ≤ 16 := of_decide_eq_false h2
     repeat (first | refine za0 rfl ?_ | refine za4 ?_ | refine za3 ?_ | refine zc2 ?_ | refine zab ?_ | refine zbi rfl ?_ | refine zcz rfl rfl ?_ | refine za2 rfl ?_ | refine zaa rfl rfl ?_ | refine zb8 (op := .add) rfl rfl rfl ?_)
     rw [zbb i (by omega)]
     exact zcj (show args.length - (i + 1) < args.length - i by omega) (zal (.cons rfl (.cons rfl (.cons rfl (.cons rfl (.cons rfl .nil)))))) ⟨i + 1, s', ⟨_, _, _⟩, rfl, hlt, by rw [hwl]; simp only [zex, if_neg hd1], hloc.new hI' _ _, hK'.trans (Keep.new M H' _), rfl⟩
   ·have hi2 : i = args.length := by
     have := of_decide_eq_false h1
     rw [zb0] at this
     omega
    repeat (first | refine za7 ?_ | refine za4 ?_ | refine za3 ?_ | refine zbi rfl ?_ | refine zbp ?_ | refine zah ?_)
    refine zeh ?_
    repeat (first | refine za7 ?_ | refine za0 rfl ?_ | refine za4 ?_ | refine za3 ?_ | refine zae ?_ | refine zbo ?_ | refine za2 rfl ?_)
    refine zad ⟨.inr rfl, _, rfl, hK', ?_⟩
    subst hi2
    simp only [hwl, List.drop_length, zex]
    exact ⟨trivial, hI'⟩
end
end Go.Proofs.Ytmnkjofaodbokaa
namespace Go.Proofs.Ytmnkjofaodbokaa
open Go Go.Am
-- pneumatic/boolexp.preorder
def ic63 : IC := .seq (.region [⟨(some 1), .box (.t 0), none⟩,
  ⟨(some 2), .mov (.c (.nilf)), none⟩] none)
 (.seq (.region [⟨(some 3), .mkfn 90 [] [(.t 1)], none⟩,
  ⟨(some 2), .mov (.t 3), none⟩] none)
 (.ret))
theorem fn63 : env0.fn 63 = some ⟨4, ic63, [.t 2]⟩ := by kernel_rfl
theorem zk2 (x : Ex) : PF Try.prog 63 [.agg (cX x)] (.fn 90 [] [.vptr (cX x)]) := by
 obtain ⟨op, ix, args⟩ := x
 refine zbl env0_ok fn63 [(0, .agg (cX (.nd op ix args)))] (by show 1 ≤ 4; decide) rfl fun w0 N0 => ?_
 unfold ic63
 repeat (first | refine za7 ?_ | refine za0 rfl ?_ | refine za4 ?_ | refine za3 ?_ | refine zae ?_ | refine za2 rfl ?_ | refine zc5 rfl rfl ?_ | refine zcq rfl rfl ?_)
 exact zad ⟨.inr rfl, _, rfl, rfl⟩
-- pneumatic/boolexp.preorder$1
def ic90 : IC := .seq (.region [⟨(some 2), .box (.t 0), none⟩] none)
 (.seq (.region [⟨(some 3), .alloc [.nilf], none⟩] none)
 (.seq (.region [⟨(some 4), .mkfn 91 [] [(.t 2), (.t 3)], none⟩,
  ⟨none, .store 1 (.t 3) (.t 4), none⟩] none)
 (.region [⟨(some 5), .load none (.t 3), none⟩,
  ⟨(some 6), .load (some 3) (.t 1), none⟩,
  ⟨(some 7), .call (.t 5) [(.t 6), (.c (.int .i64 1))], none⟩] none)))
theorem fn90 : env0.fn 90 = some ⟨8, ic90, []⟩ := by kernel_rfl
section
variable {σ τ : Type} {step : σ → Int → Ex → σ ⊕ τ} {M : Nat → Prop} {I : σ → HS → Prop} {J : τ → HS → Prop}
theorem zp9 {w0 : World} {N0 id sp : Nat} (hloc : Local M I) (hy : ∀ s d x H, I s H → CT Try.prog w0 N0 (.yield id sp) [.int .i64 d, .agg (cX x)] H (Left M I J H (step s d x))) (x : Ex) (H : HS) (s : σ) (hx : Slim x) (hI : I s H) :
  FT Try.prog w0 N0 90 [.yield id sp, .vptr (cX x)] H fun _ H' => Keep M H H' ∧ match zem step 1 x s with
   | .inl s' => I s' H'
   | .inr t => J t H' := by
 refine zco env0_ok fn90 [(0, .yield id sp), (1, .vptr (cX x))] (by show 2 ≤ 8; decide) rfl ?_
 obtain ⟨op, ix, args⟩ := x
 unfold ic90
 repeat (first | refine za7 ?_ | refine za0 rfl ?_ | refine za4 ?_ | refine za3 ?_ | refine zat ?_ | refine zc5 rfl rfl ?_ | refine zcq rfl rfl ?_)
 refine zak rfl rfl rfl rfl zb9 rfl rfl ?_
 rw [zhs]
 repeat (first | refine za0 rfl ?_ | refine za4 ?_ | refine za3 ?_)
 refine ze3 rfl zb9 (Nat.lt_succ_self _) rfl ?_
 repeat (first | refine zap rfl rfl rfl rfl ?_)
 have hlt := hloc.lt s H hI
 have hk0 : Keep M H ⟨(H.next + 1, H.clk + 1, .cells (setAt 0 [.nilf] [.fn 91 [] [.mptr H.next H.clk 0, .mptr (H.next + 1) (H.clk + 1) 0]])) :: (H.next, H.clk, .cells [.yield id sp]) :: H.heap, H.next + 1 + 1, H.clk + 1 + 1⟩ := (Keep.new M H (H.clk, .cells [.yield id sp])).trans (Keep.new M ⟨(H.next, H.clk, .cells [.yield id sp]) :: H.heap, H.next + 1, H.clk + 1⟩ (H.clk + 1, _))
 refine zfw _ rfl rfl (ct_fn (visit102 hloc hy (SizeOf.sizeOf (Ex.nd op ix args)) (.nd op ix args) 1 ⟨_, _, _⟩ s (Nat.le_refl _) hx (by decide) (by decide) (hloc.of s H ⟨_, _, _⟩ hI hk0.next fun i hm => (zd1 (Nat.lt_succ_of_lt (hlt i hm))).trans (zd1 (hlt i hm)))
  ⟨fun hm => Nat.lt_irrefl _ (hlt _ hm), fun hm => Nat.not_succ_lt_self (hlt _ hm), (zd1 (Nat.lt_succ_self _)).trans zb9, zb9, Nat.lt_succ_of_lt (Nat.lt_succ_self _), Nat.lt_succ_self _⟩)) (fun _ _ _ _ hm => absurd hm List.not_mem_nil) fun v H2 hF => ?_
 obtain ⟨hK, hF⟩ := hF
 repeat (first | refine za4 ?_)
 refine zad ⟨.inl rfl, _, rfl, hk0.trans hK, ?_⟩
 cases hw : zem step 1 (.nd op ix args) s with
 | inl s' => rw [hw] at hF; exact hF.2
 | inr t => rw [hw] at hF; exact hF.2
end
end Go.Proofs.Ytmnkjofaodbokaa
namespace Go.Proofs.Ytmnkjofaodbokaa
open Go Go.Am
def zd2 : IC → List (Code × Code)
 | .seq a b => zd2 a ++ zd2 b
 | .cond _ a b => zd2 a ++ zd2 b
 | .block _ b => zd2 b
 | .loop b => zd2 b
 | .rangeFunc _ _ ca cb _ _ => [(ca, cb)]
 | _ => []
noncomputable def ca47 : Code := match env0.fn 47 with
 | some i => ((zd2 i.ic).headD (.skip, .skip)).1
 | none => .skip
noncomputable def cb47 : Code := match env0.fn 47 with
 | some i => ((zd2 i.ic).headD (.skip, .skip)).2
 | none => .skip
def asg47 : IC := .region [⟨(some 7), .mov (.t 10), none⟩] none
def zrj : IC := .block 1 (.seq (.region [⟨(some 12), .load none (.t 5), none⟩,
  ⟨(some 13), .bin .add (.t 12) (.c (.int .i64 1)), none⟩,
  ⟨none, .store 1 (.t 5) (.t 13), none⟩] none)
 (.seq (.region [⟨(some 14), .load none (.t 6), none⟩,
  ⟨(some 15), .mov (.t 7), none⟩,
  ⟨(some 16), .minmax true [(.t 14), (.t 15)], none⟩,
  ⟨none, .store 1 (.t 6) (.t 16), none⟩] none)
 (.seq (.region [⟨(some 17), .load none (.t 5), none⟩,
  ⟨(some 18), .bin .gtr (.t 17) (.c (.int .i64 256)), none⟩,
  ⟨(some 19), .mov (.t 18), none⟩,
  ⟨(some 20), .mov (.t 7), some (19, false)⟩,
  ⟨(some 21), .bin .gtr (.t 20) (.c (.int .i64 16)), some (19, false)⟩,
  ⟨(some 22), .pick (.t 19) (.c (.bool true)) (.t 21), none⟩] none)
 (.cond (.t 22) (.seq (.region [⟨none, .store 1 (.t 2) (.c (.int .i64 0)), none⟩,
  ⟨none, .store 1 (.t 3) (.c (.int .i64 0)), none⟩,
  ⟨none, .store 1 (.t 4) (.c (.bool false)), none⟩] none)
 (.ret))
 (.skip)))))
-- pneumatic/boolexp.measure
noncomputable def ic47 : IC := .seq (.region [⟨(some 1), .box (.t 0), none⟩,
  ⟨(some 2), .alloc [.int .i64 0], none⟩,
  ⟨(some 3), .alloc [.int .i64 0], none⟩,
  ⟨(some 4), .alloc [.bool false], none⟩] none)
 (.seq (.region [⟨(some 5), .alloc [.int .i64 0], none⟩,
  ⟨(some 6), .alloc [.int .i64 0], none⟩,
  ⟨none, .store 1 (.t 5) (.c (.int .i64 0)), none⟩,
  ⟨none, .store 1 (.t 6) (.c (.int .i64 0)), none⟩] none)
 (.seq (.seq (.region [⟨(some 8), .load (some 3) (.t 1), none⟩,
  ⟨(some 9), .call (.c (.fn 63 [] [])) [(.t 8)], none⟩] none)
 (.block 0 (.rangeFunc (.t 9) [10, 11] ca47 cb47 asg47 zrj)))
 (.seq (.region [⟨(some 23), .load none (.t 5), none⟩,
  ⟨(some 24), .load none (.t 6), none⟩,
  ⟨none, .store 1 (.t 2) (.t 23), none⟩,
  ⟨none, .store 1 (.t 3) (.t 24), none⟩,
  ⟨none, .store 1 (.t 4) (.c (.bool true)), none⟩] (some [[], [], [0, 0], [1, 2, 0, 1, 2], [3, 0, 1, 2, 3]]))
 (.ret))))
theorem fn47 : env0.fn 47 = some ⟨25, ic47, [.cell 2 none, .cell 3 none, .cell 4 none]⟩ := by kernel_rfl
def zkj (m d : Int) : Int := if d > m then d else m
def zf2 (s : Int × Int) (d : Int) (_ : Ex) : (Int × Int) ⊕ Unit := if s.1 + 1 > 256 ∨ d > 16 then .inr () else .inl (s.1 + 1, zkj s.2 d)
structure I86 (ltm : List (Nat × AV)) (s : Int × Int) (H : HS) : Prop where
 nx : 8 ≤ H.next
 n0 : 0 ≤ s.1 ∧ s.1 ≤ 256
 h7 : Am.look 7 H.heap = some (7, .loop .ready none 25 (zeg ltm) [10, 11] ca47 cb47 (6, 6))
 h6 : Am.look 6 H.heap = some (6, .deferred)
 h4 : Am.look 4 H.heap = some (4, .cells [.int .i64 s.1])
 h5 : Am.look 5 H.heap = some (5, .cells [.int .i64 s.2])
 h1 : Am.look 1 H.heap = some (1, .cells [.int .i64 0])
 h2 : Am.look 2 H.heap = some (2, .cells [.int .i64 0])
 h3 : Am.look 3 H.heap = some (3, .cells [.bool false])
structure J86 (_ : Unit) (H : HS) : Prop where
 nx : 8 ≤ H.next
 h7 : ∃ tm, Am.look 7 H.heap = some (7, .loop .done (some .ret) 25 tm [10, 11] ca47 cb47 (6, 6))
 h6 : Am.look 6 H.heap = some (6, .deferred)
 h1 : Am.look 1 H.heap = some (1, .cells [.int .i64 0])
 h2 : Am.look 2 H.heap = some (2, .cells [.int .i64 0])
 h3 : Am.look 3 H.heap = some (3, .cells [.bool false])
theorem local86 (ltm : List (Nat × AV)) : Local (fun i => i < 8) (I86 ltm) :=
 ⟨fun s H h i hi => Nat.lt_of_lt_of_le hi h.nx, fun s H H' h hn hl =>
  ⟨Nat.le_trans h.nx hn, h.n0, (hl 7 (by decide)).trans h.h7, (hl 6 (by decide)).trans h.h6, (hl 4 (by decide)).trans h.h4, (hl 5 (by decide)).trans h.h5, (hl 1 (by decide)).trans h.h1, (hl 2 (by decide)).trans h.h2, (hl 3 (by decide)).trans h.h3⟩⟩
def l86 (x : Ex) : List (Nat × AV) := [(9, .fn 90 [] [.vptr (cX x)]), (8, .agg (cX x)), (6, .mptr 5 5 0), (5, .mptr 4 4 0), (4, .mptr 3 3 0), (3, .mptr 2 2 0), (2, .mptr 1 1 0), (1, .mptr 0 0 0), (0, .agg (cX x))]
set_option maxHeartbeats 2000000 in
theorem yield86 {w0 : World} {N0 : Nat} (y : Ex) (ha : Com Try.prog ca47 asg47) (hb : Com Try.prog cb47 zrj) (s : Int × Int) (d : Int) (x : Ex) (H : HS) (h : I86 (l86 y) s H) :
  CT Try.prog w0 N0 (.yield 7 7) [.int .i64 d, .agg (cX x)] H (Left (fun i => i < 8) (I86 (l86 y)) J86 H (zf2 s d x)) := by
 obtain ⟨n, m⟩ := s
 obtain ⟨nx, n0, h7, h6, h4, h5, h1, h2, h3⟩ := h
 simp only at n0 h4 h5
 have e1 : IntKind.wrap .i64 (n + 1) = n + 1 := wrap_small _ (by omega) (by omega)
 refine ct_yield (l0 := (11, .agg (cX x)) :: (10, .int .i64 d) :: l86 y) h7 ha hb rfl (by decide) rfl ?_
 unfold asg47
 repeat (first | refine za0 rfl ?_ | refine za4 ?_ | refine za2 rfl ?_)
 refine zad ⟨rfl, _, rfl, ?_⟩
 unfold zrj
 repeat (first | refine za7 ?_ | refine za0 rfl ?_ | refine zai ?_)
 refine ze3 (sp := 4) (cs := [.int .i64 n]) rfl (by rw [za1, if_neg (by decide)]; exact h4) (by omega) rfl ?_
 repeat (first | refine zb8 (op := .add) rfl rfl rfl ?_)
 refine zak (sp := 4) (cs := [.int .i64 n]) rfl rfl rfl rfl (by rw [za1, if_neg (by decide)]; exact h4) rfl rfl ?_
 repeat (first | refine za7 ?_ | refine za0 rfl ?_ | refine za4 ?_ | refine za3 ?_)
 refine ze3 (sp := 5) (cs := [.int .i64 m]) rfl (by rw [za1, if_neg (by decide), za1, if_neg (by decide)]; exact h5) (by omega) rfl ?_
 repeat (first | refine za2 rfl ?_ | refine zba rfl rfl rfl ?_)
 refine zak (sp := 5) (cs := [.int .i64 m]) rfl rfl rfl rfl (by rw [za1, if_neg (by decide), za1, if_neg (by decide)]; exact h5) rfl rfl ?_
 repeat (first | refine za7 ?_ | refine za0 rfl ?_ | refine za4 ?_ | refine za3 ?_)
 refine ze3 (sp := 4) (cs := [.int .i64 (IntKind.wrap .i64 (n + 1))]) rfl (by rw [za1, if_neg (by decide), za1, if_pos rfl]; rfl) (by omega) rfl ?_
 rw [e1]
 have fin : ∀ l', ¬ (n + 1 > 256 ∨ d > 16) → zo6 7 7 (Left (fun i => i < 8) (I86 (l86 y)) J86 H (zf2 (n, m) d x)) .normal
   (st 25 l' (zb6 5 (5, .cells [.int .i64 (zkj m d)]) (zb6 4 (4, .cells [.int .i64 (n + 1)]) (zb6 7 (7, .loop .busy none 25 (zeg (l86 y)) [10, 11] ca47 cb47 (6, 6)) H.heap))) H.next H.clk) := fun l' hn => by
  refine ⟨25, zeg (l86 y), [10, 11], ca47, cb47, (6, 6), ?_, none, rfl, ⟨Nat.le_refl _, Nat.le_refl _, fun i hi _ => ?_⟩, ?_⟩
  ·show Am.look 7 (zb6 5 _ (zb6 4 _ (zb6 7 _ H.heap))) = _
   rw [za1, if_neg (by decide), za1, if_neg (by decide), za1, if_pos rfl]
  ·show Am.look i (zb6 7 _ (zb6 5 _ (zb6 4 _ (zb6 7 _ H.heap)))) = _
   rw [za1, if_neg (by omega), za1, if_neg (by omega), za1, if_neg (by omega), za1, if_neg (by omega)]
  ·unfold zf2
   rw [if_neg hn]
   refine ⟨rfl, nx, by simp only; omega, ?_, ?_, ?_, ?_, ?_, ?_, ?_⟩
   ·show Am.look 7 (zb6 7 _ _) = _
    rw [za1, if_pos rfl]; rfl
   all_goals
    show Am.look _ (zb6 7 _ (zb6 5 _ (zb6 4 _ (zb6 7 _ H.heap)))) = _
    rw [za1, if_neg (by decide)]
   ·rw [za1, if_neg (by decide), za1, if_neg (by decide), za1, if_neg (by decide)]; exact h6
   ·rw [za1, if_neg (by decide), za1, if_pos rfl]
   ·rw [za1, if_pos rfl]
   ·rw [za1, if_neg (by decide), za1, if_neg (by decide), za1, if_neg (by decide)]; exact h1
   ·rw [za1, if_neg (by decide), za1, if_neg (by decide), za1, if_neg (by decide)]; exact h2
   ·rw [za1, if_neg (by decide), za1, if_neg (by decide), za1, if_neg (by decide)]; exact h3
 have stop : ∀ l', (n + 1 > 256 ∨ d > 16) → zo6 7 7 (Left (fun i => i < 8) (I86 (l86 y)) J86 H (zf2 (n, m) d x)) .ret
   (st 25 l' (zb6 3 (3, .cells [.bool false]) (zb6 2 (2, .cells [.int .i64 0]) (zb6 1 (1, .cells [.int .i64 0]) (zb6 5 (5, .cells [.int .i64 (zkj m d)]) (zb6 4 (4, .cells [.int .i64 (n + 1)]) (zb6 7 (7, .loop .busy none 25 (zeg (l86 y)) [10, 11] ca47 cb47 (6, 6)) H.heap)))))) H.next H.clk) := fun l' hn => by
  refine ⟨25, zeg (l86 y), [10, 11], ca47, cb47, (6, 6), ?_, some .ret, rfl, ⟨Nat.le_refl _, Nat.le_refl _, fun i hi _ => ?_⟩, ?_⟩
  ·show Am.look 7 (zb6 3 _ (zb6 2 _ (zb6 1 _ (zb6 5 _ (zb6 4 _ (zb6 7 _ H.heap)))))) = _
   rw [za1, if_neg (by decide), za1, if_neg (by decide), za1, if_neg (by decide), za1, if_neg (by decide), za1, if_neg (by decide), za1, if_pos rfl]
  ·show Am.look i (zb6 7 _ (zb6 3 _ (zb6 2 _ (zb6 1 _ (zb6 5 _ (zb6 4 _ (zb6 7 _ H.heap))))))) = _
   rw [za1, if_neg (by omega), za1, if_neg (by omega), za1, if_neg (by omega), za1, if_neg (by omega), za1, if_neg (by omega), za1, if_neg (by omega), za1, if_neg (by omega)]
  ·unfold zf2
   rw [if_pos hn]
   refine ⟨rfl, nx, ⟨zeg (l86 y), ?_⟩, ?_, ?_, ?_, ?_⟩
   ·show Am.look 7 (zb6 7 _ _) = _
    rw [za1, if_pos rfl]; rfl
   all_goals
    show Am.look _ (zb6 7 _ (zb6 3 _ (zb6 2 _ (zb6 1 _ (zb6 5 _ (zb6 4 _ (zb6 7 _ H.heap))))))) = _
    rw [za1, if_neg (by decide)]
   ·rw [za1, if_neg (by decide), za1, if_neg (by decide), za1, if_neg (by decide), za1, if_neg (by decide), za1, if_neg (by decide), za1, if_neg (by decide)]; exact h6
   ·rw [za1, if_neg (by decide), za1, if_neg (by decide), za1, if_pos rfl]
   ·rw [za1, if_neg (by decide), za1, if_pos rfl]
   ·rw [za1, if_pos rfl]
 refine zar rfl rfl rfl (fun hg => ?_) fun hg => ?_
 ·have hg := of_decide_eq_true hg
  repeat (first | refine za7 ?_ | refine za0 rfl ?_ | refine za4 ?_ | refine za3 ?_ | refine zbe rfl ?_ | refine zcz rfl rfl ?_ | refine za2 rfl ?_ | refine zag rfl rfl ?_)
  refine zak (sp := 1) (cs := [.int .i64 0]) rfl rfl rfl rfl (by rw [za1, if_neg (by decide), za1, if_neg (by decide), za1, if_neg (by decide)]; exact h1) rfl rfl ?_
  refine zak (sp := 2) (cs := [.int .i64 0]) rfl rfl rfl rfl (by rw [za1, if_neg (by decide), za1, if_neg (by decide), za1, if_neg (by decide), za1, if_neg (by decide)]; exact h2) rfl rfl ?_
  refine zak (sp := 3) (cs := [.bool false]) rfl rfl rfl rfl (by rw [za1, if_neg (by decide), za1, if_neg (by decide), za1, if_neg (by decide), za1, if_neg (by decide), za1, if_neg (by decide)]; exact h3) rfl rfl ?_
  repeat (first | refine za4 ?_ | refine za3 ?_ | refine zae ?_ | refine zaf ?_)
  exact zad (stop _ (.inl hg))
 ·have hg := of_decide_eq_false hg
  repeat (first | refine zbz rfl ?_ | refine za2 rfl ?_)
  refine zar rfl rfl rfl (fun hd => ?_) fun hd => ?_
  ·have hd := of_decide_eq_true hd
   repeat (first | refine za7 ?_ | refine za0 rfl ?_ | refine za4 ?_ | refine za3 ?_ | refine zbe rfl ?_ | refine zaa rfl rfl ?_)
   refine zak (sp := 1) (cs := [.int .i64 0]) rfl rfl rfl rfl (by rw [za1, if_neg (by decide), za1, if_neg (by decide), za1, if_neg (by decide)]; exact h1) rfl rfl ?_
   refine zak (sp := 2) (cs := [.int .i64 0]) rfl rfl rfl rfl (by rw [za1, if_neg (by decide), za1, if_neg (by decide), za1, if_neg (by decide), za1, if_neg (by decide)]; exact h2) rfl rfl ?_
   refine zak (sp := 3) (cs := [.bool false]) rfl rfl rfl rfl (by rw [za1, if_neg (by decide), za1, if_neg (by decide), za1, if_neg (by decide), za1, if_neg (by decide), za1, if_neg (by decide)]; exact h3) rfl rfl ?_
   repeat (first | refine za4 ?_ | refine za3 ?_ | refine zae ?_ | refine zaf ?_)
   exact zad (stop _ (.inr hd))
  ·have hd := of_decide_eq_false hd
   repeat (first | refine za4 ?_ | refine za3 ?_ | refine zc2 ?_ | refine zab ?_ | refine zbi rfl ?_ | refine zaa rfl rfl ?_)
   exact zad (fin _ fun hx => hx.elim hg hd)
end Go.Proofs.Ytmnkjofaodbokaa
namespace Go.Proofs.Ytmnkjofaodbokaa
open Go Go.Am
theorem zc4 {S : AS} {id sp : Nat} {cs : List AV} (h : Am.look id S.heap = some (sp, .cells cs)) (hn : id < S.next) : S.deref (.mptr id sp 0) = some cs := by
 simp only [AS.deref, h]
 rw [if_pos ⟨trivial, hn⟩, List.drop_zero]
theorem zk5 {S : AS} {a b c : Nat} {pa pb pc va vb vc : AV} {ra rb rc : List AV} (h1 : S.get a = some pa) (d1 : S.deref pa = some (va :: ra)) (h2 : S.get b = some pb) (d2 : S.deref pb = some (vb :: rb)) (h3 : S.get c = some pc) (d3 : S.deref pc = some (vc :: rc)) :
  S.res [.cell a none, .cell b none, .cell c none] = some (.tup [va, vb, vc]) := by
 simp [AS.res, AS.resL, znr, h1, h2, h3, d1, d2, d3]
def zgg (x : Ex) : AV := match zem zf2 1 x (0, 0) with
 | .inl (n, m) => .tup [.int .i64 n, .int .i64 m, .bool true]
 | .inr _ => .tup [.int .i64 0, .int .i64 0, .bool false]
set_option maxHeartbeats 2000000 in
theorem zme (x : Ex) (hs : Slim x) : PF Try.prog 47 [.agg (cX x)] (zgg x) := by
 obtain ⟨op, ix, args⟩ := x
 refine zbl env0_ok fn47 [(0, .agg (cX (.nd op ix args)))] (by show 1 ≤ 25; decide) rfl fun w0 N0 => ?_
 unfold ic47
 repeat (first | refine za7 ?_ | refine za0 rfl ?_ | refine za4 ?_ | refine za3 ?_ | refine zap rfl rfl rfl rfl ?_ | refine zak rfl rfl rfl rfl rfl rfl rfl ?_ | refine zat ?_ | refine zc5 rfl rfl ?_)
 refine zay rfl rfl (zk2 (.nd op ix args)) (fun h => Bool.noConfusion (show false = true from h)) ?_
 repeat (first | refine za4 ?_ | refine za3 ?_ | refine zai ?_)
 refine zuk (.inl rfl) rfl fun ha hb => (zp9 (local86 (l86 (.nd op ix args))) (fun s d x H h => yield86 (.nd op ix args) ha hb s d x H h) (.nd op ix args) ⟨_, _, _⟩ (0, 0) hs ⟨Nat.le_refl _, ⟨Int.le_refl _, by decide⟩, rfl, rfl, rfl, rfl, rfl, rfl, rfl⟩).mono fun v H2 hF => ?_
 obtain ⟨hK, hF⟩ := hF
 unfold zgg
 cases hwk : zem zf2 1 (.nd op ix args) (0, 0) with
 | inl s =>
  rw [hwk] at hF
  obtain ⟨n, m⟩ := s
  obtain ⟨nx, n0, h7, h6, h4, h5, h1, h2, h3⟩ := hF
  simp only at n0 h4 h5
  refine ⟨_, _, .normal, _, _, _, _, _, _, h7, by simp, rfl, fun z hz => ?_, ?_⟩
  ·obtain rfl := List.mem_singleton.1 hz
   rw [zac, if_neg (by decide)]; exact h6
  ·repeat (first | refine za7 ?_ | refine za3 ?_ | refine zc2 ?_)
   refine z_drawn2 env0_ok [] (fun _ hx => absurd hx List.not_mem_nil) (fun _ => false) (fun i => i == 4 || i == 5) (fun i => i == 1 || i == 2 || i == 3) (fun i h1 h2 => by simp at h1 h2; omega) rfl rfl rfl ?_
   refine ze3 (sp := 4) (cs := [.int .i64 n]) rfl (by rw [zac, if_neg (by decide)]; exact h4) (by omega) rfl ?_
   refine ze3 (sp := 5) (cs := [.int .i64 m]) rfl (by rw [zac, if_neg (by decide)]; exact h5) (by omega) rfl ?_
   refine zak (sp := 1) (cs := [.int .i64 0]) rfl rfl rfl rfl (by rw [zac, if_neg (by decide)]; exact h1) rfl rfl ?_
   refine zak (sp := 2) (cs := [.int .i64 0]) rfl rfl rfl rfl (by rw [za1, if_neg (by decide), zac, if_neg (by decide)]; exact h2) rfl rfl ?_
   refine zak (sp := 3) (cs := [.bool false]) rfl rfl rfl rfl (by rw [za1, if_neg (by decide), za1, if_neg (by decide), zac, if_neg (by decide)]; exact h3) rfl rfl ?_
   repeat (first | refine za4 ?_ | refine za3 ?_ | refine zae ?_)
   refine zad ⟨.inr rfl, .tup [.int .i64 n, .int .i64 m, .bool true], zk5 (zcs 2) (zc4 (sp := 1) (cs := [.int .i64 n]) ?_ ?_) (zcs 3) (zc4 (sp := 2) (cs := [.int .i64 m]) ?_ ?_) (zcs 4) (zc4 (sp := 3) (cs := [.bool true]) ?_ ?_), rfl⟩
   ·show Am.look 1 (zbj 6 (zb6 3 _ (zb6 2 _ (zb6 1 _ (zbj 7 H2.heap))))) = _
    rw [zac, if_neg (by decide), za1, if_neg (by decide), za1, if_neg (by decide), za1, if_pos rfl]; rfl
   ·show 1 < H2.next; omega
   ·show Am.look 2 (zbj 6 (zb6 3 _ (zb6 2 _ (zb6 1 _ (zbj 7 H2.heap))))) = _
    rw [zac, if_neg (by decide), za1, if_neg (by decide), za1, if_pos rfl]; rfl
   ·show 2 < H2.next; omega
   ·show Am.look 3 (zbj 6 (zb6 3 _ (zb6 2 _ (zb6 1 _ (zbj 7 H2.heap))))) = _
    rw [zac, if_neg (by decide), za1, if_pos rfl]; rfl
   ·show 3 < H2.next; omega
 | inr u =>
  rw [hwk] at hF
  obtain ⟨nx, ⟨tm, h7⟩, h6, h1, h2, h3⟩ := hF
  refine ⟨_, _, .ret, _, _, _, _, _, _, h7, by simp, rfl, fun z hz => ?_, ?_⟩
  ·obtain rfl := List.mem_singleton.1 hz
   rw [zac, if_neg (by decide)]; exact h6
  ·repeat (first | refine za6 ?_ | refine zaf ?_)
   refine zad ⟨.inr rfl, .tup [.int .i64 0, .int .i64 0, .bool false], zk5 (zcs 2) (zc4 (sp := 1) (cs := [.int .i64 0]) ?_ ?_) (zcs 3) (zc4 (sp := 2) (cs := [.int .i64 0]) ?_ ?_) (zcs 4) (zc4 (sp := 3) (cs := [.bool false]) ?_ ?_), rfl⟩
   ·show Am.look 1 (zbj 6 (zbj 7 H2.heap)) = _
    rw [zac, if_neg (by decide), zac, if_neg (by decide)]; exact h1
   ·show 1 < H2.next; omega
   ·show Am.look 2 (zbj 6 (zbj 7 H2.heap)) = _
    rw [zac, if_neg (by decide), zac, if_neg (by decide)]; exact h2
   ·show 2 < H2.next; omega
   ·show Am.look 3 (zbj 6 (zbj 7 H2.heap)) = _
    rw [zac, if_neg (by decide), zac, if_neg (by decide)]; exact h3
   ·show 3 < H2.next; omega
end Go.Proofs.Ytmnkjofaodbokaa
namespace Go.Proofs.Ytmnkjofaodbokaa
open Go Go.Am
def zo2 : AV := .agg [.int .i64 0, .int .i64 0, .nilf, .int .i64 0, .int .i64 0, .nilf, .int .i64 1, .int .i64 1, .fn 119 [] [.vptr [.bool false]], .int .i64 2, .int .i64 256, .fn 119 [] [.vptr [.bool true]], .int .i64 2, .int .i64 256, .fn 103 [] []]
def tabS : Tab := [
 (80, [
  ([], .agg [.int .i64 0, .int .i64 0, .nilf, .int .i64 0, .int .i64 0, .nilf, .int .i64 1, .int .i64 1, .fn 119 [] [.vptr [.bool false]], .int .i64 2, .int .i64 256, .fn 119 [] [.vptr [.bool true]], .int .i64 2, .int .i64 256, .fn 103 [] []])])]
theorem tabS_ok : TabOk Try.prog tabS := TabOk.of_run (env0_ok.tab TabOk.nil (pure := [])) (n := 60) (by kernel_rfl)
theorem ztz : PF Try.prog 80 [] zo2 := tabS_ok _ (List.mem_cons_self ..) _ (List.mem_cons_self ..)
theorem zkc (n : Int) (hn : 0 ≤ n ∧ n ≤ 256) : IntKind.i64.wrap (n - 1) = n - 1 := by
 by_cases h : n = 0
 ·subst h; decide
 ·exact wrap_small _ (by omega) (by omega)
def zb2 (op : Int) : Int := if op = 2 then 1 else if op = 3 ∨ op = 4 then 2 else 0
def zc1 (op : Int) : Int := if op = 2 then 1 else if op = 3 ∨ op = 4 then 256 else 0
def zbg (op n : Int) : Int := if op = 0 then 1 else if op = 1 then n - 1 else 0
def zbq (op ix k n : Int) : Int :=
 if op < 0 ∨ op ≥ 5 then 1 else if k < zb2 op ∨ k > zc1 op then 3 else if ix < 0 ∨ ix > zbg op n then 2 else 0
-- pneumatic/boolexp.node
def ic70 : IC := .seq (.region [⟨(some 2), .box (.t 0), none⟩,
  ⟨(some 4), .mov (.c (.int .i64 0)), none⟩] none)
 (.seq (.seq (.region [⟨(some 7), .faddr 0 (.t 2), none⟩,
  ⟨(some 8), .load none (.t 7), none⟩,
  ⟨(some 9), .bin .lss (.t 8) (.c (.int .i64 0)), none⟩,
  ⟨(some 10), .mov (.t 9), none⟩,
  ⟨(some 11), .faddr 0 (.t 2), some (10, false)⟩,
  ⟨(some 12), .load none (.t 11), some (10, false)⟩,
  ⟨(some 13), .bin .geq (.t 12) (.c (.int .i64 5)), some (10, false)⟩,
  ⟨(some 14), .pick (.t 10) (.c (.bool true)) (.t 13), none⟩] none)
 (.cond (.t 14) (.seq (.region [⟨(some 4), .mov (.c (.int .i64 1)), none⟩] none)
 (.ret))
 (.skip)))
 (.seq (.region [⟨(some 15), .call (.c (.fn 80 [] [])) [], none⟩,
  ⟨(some 16), .faddr 0 (.t 2), none⟩,
  ⟨(some 17), .load none (.t 16), none⟩,
  ⟨(some 18), .idxagg 5 3 true (.t 15) (.t 17), none⟩,
  ⟨(some 5), .alloc [.int .i64 0, .int .i64 0, .nilf], none⟩,
  ⟨none, .store 3 (.t 5) (.t 18), none⟩] (some [[], [], [1], [0, 2], [], [4, 3, 0, 0, 1, 2, 3, 4]]))
 (.seq (.seq (.region [⟨(some 19), .faddr 2 (.t 2), none⟩,
  ⟨(some 20), .load none (.t 19), none⟩,
  ⟨(some 21), .len false (.t 20), none⟩,
  ⟨(some 22), .faddr 0 (.t 5), none⟩,
  ⟨(some 23), .load none (.t 22), none⟩,
  ⟨(some 24), .bin .lss (.t 21) (.t 23), none⟩,
  ⟨(some 25), .mov (.t 24), none⟩,
  ⟨(some 26), .faddr 2 (.t 2), some (25, false)⟩,
  ⟨(some 27), .load none (.t 26), some (25, false)⟩,
  ⟨(some 28), .len false (.t 27), some (25, false)⟩,
  ⟨(some 29), .faddr 1 (.t 5), some (25, false)⟩,
  ⟨(some 30), .load none (.t 29), some (25, false)⟩,
  ⟨(some 31), .bin .gtr (.t 28) (.t 30), some (25, false)⟩,
  ⟨(some 32), .pick (.t 25) (.c (.bool true)) (.t 31), none⟩] none)
 (.cond (.t 32) (.seq (.region [⟨(some 4), .mov (.c (.int .i64 3)), none⟩] none)
 (.ret))
 (.skip)))
 (.seq (.region [⟨(some 6), .mov (.c (.int .i64 0)), none⟩] none)
 (.seq (.seq (.region [⟨(some 33), .faddr 0 (.t 2), none⟩,
  ⟨(some 34), .load none (.t 33), none⟩] none)
 (.block 0 (.seq (.region [⟨(some 36), .bin .eql (.t 34) (.c (.int .i64 0)), none⟩,
  ⟨(some 35), .mov (.t 36), none⟩] none)
 (.cond (.t 35) (.region [⟨(some 6), .mov (.c (.int .i64 1)), none⟩] none)
 (.seq (.region [⟨(some 38), .bin .eql (.t 34) (.c (.int .i64 1)), none⟩,
  ⟨(some 37), .mov (.t 38), none⟩] none)
 (.cond (.t 37) (.region [⟨(some 39), .mov (.t 1), none⟩,
  ⟨(some 40), .bin .sub (.t 39) (.c (.int .i64 1)), none⟩,
  ⟨(some 6), .mov (.t 40), none⟩] none)
 (.skip)))))))
 (.seq (.seq (.region [⟨(some 41), .faddr 1 (.t 2), none⟩,
  ⟨(some 42), .load none (.t 41), none⟩,
  ⟨(some 43), .bin .lss (.t 42) (.c (.int .i64 0)), none⟩,
  ⟨(some 44), .mov (.t 43), none⟩,
  ⟨(some 45), .faddr 1 (.t 2), some (44, false)⟩,
  ⟨(some 46), .load none (.t 45), some (44, false)⟩,
  ⟨(some 47), .mov (.t 6), some (44, false)⟩,
  ⟨(some 48), .bin .gtr (.t 46) (.t 47), some (44, false)⟩,
  ⟨(some 49), .pick (.t 44) (.c (.bool true)) (.t 48), none⟩] none)
 (.cond (.t 49) (.seq (.region [⟨(some 4), .mov (.c (.int .i64 2)), none⟩] none)
 (.ret))
 (.skip)))
 (.seq (.region [⟨(some 4), .mov (.c (.int .i64 0)), none⟩] none)
 (.ret))))))))
theorem fn70 : env0.fn 70 = some ⟨50, ic70, [.t 4]⟩ := by kernel_rfl
set_option maxHeartbeats 4000000 in
theorem node88 (op ix n : Int) (args : List Ex) (hn : 0 ≤ n ∧ n ≤ 256) : PF Try.prog 70 [.agg (cX (.nd op ix args)), .int .i64 n] (.int .i64 (zbq op ix args.length n)) := by
 refine zbl env0_ok fn70 [(0, .agg (cX (.nd op ix args))), (1, .int .i64 n)] (by show 2 ≤ 50; decide) rfl fun w0 N0 => ?_
 unfold ic70
 repeat (first | refine za7 ?_ | refine za0 rfl ?_ | refine za4 ?_ | refine za3 ?_ | refine za2 rfl ?_ | refine zam rfl rfl ?_ | refine za8 rfl ?_ | refine zc5 rfl rfl ?_)
 refine zar rfl rfl rfl (fun h1 => ?_) fun h1 => ?_
 ·have h1 := of_decide_eq_true h1
  repeat (first | refine za7 ?_ | refine za0 rfl ?_ | refine za4 ?_ | refine za3 ?_ | refine zbe rfl ?_ | refine zae ?_ | refine za6 ?_ | refine zcz rfl rfl ?_ | refine za2 rfl ?_ | refine zag rfl rfl ?_)
  refine zad ⟨.inr rfl, _, rfl, ?_⟩
  unfold zbq
  rw [if_pos (.inl h1)]
  rfl
 have h1 := of_decide_eq_false h1
 repeat (first | refine zbz rfl ?_ | refine za2 rfl ?_ | refine zam rfl rfl ?_ | refine za8 rfl ?_)
 refine zar rfl rfl rfl (fun h2 => ?_) fun h2 => ?_
 ·have h2 := of_decide_eq_true h2
  repeat (first | refine za7 ?_ | refine za0 rfl ?_ | refine za4 ?_ | refine za3 ?_ | refine zbe rfl ?_ | refine zae ?_ | refine za6 ?_ | refine za2 rfl ?_ | refine zaa rfl rfl ?_)
  refine zad ⟨.inr rfl, _, rfl, ?_⟩
  unfold zbq
  rw [if_pos (.inr h2)]
  rfl
 have h2 := of_decide_eq_false h2
 repeat (first | refine za7 ?_ | refine za4 ?_ | refine za3 ?_ | refine zab ?_ | refine zbi rfl ?_ | refine zaa rfl rfl ?_)
 refine zlm env0_ok [(80, [], zo2)] (fun x hx => by obtain rfl := List.mem_singleton.1 hx; exact ztz) (fun f => Nat.beq f 80) rfl rfl rfl ?_
 refine zay rfl rfl zgw (fun h => Bool.noConfusion (show false = true from h)) ?_
 have hlen : ((cXs args).length : Int) = (args.length : Int) := by rw [zb0]
 have hop : op = 0 ∨ op = 1 ∨ op = 2 ∨ op = 3 ∨ op = 4 := by omega
 unfold zo2
 rcases hop with rfl | rfl | rfl | rfl | rfl
 ·repeat (first | refine za7 ?_ | refine za0 rfl ?_ | refine za4 ?_ | refine za3 ?_ | refine zbz rfl ?_ | refine za2 rfl ?_ | refine zam rfl rfl ?_ | refine zak rfl rfl rfl rfl rfl rfl rfl ?_ | refine za8 rfl ?_ | refine zat ?_ | refine zb7 rfl rfl ?_ | refine zb4 rfl rfl rfl rfl ?_ | refine zav rfl rfl rfl ?_)
  refine zar rfl rfl rfl (fun h3 => ?_) fun h3 => ?_
  ·have h3 := of_decide_eq_true h3
   repeat (first | refine za7 ?_ | refine za0 rfl ?_ | refine za4 ?_ | refine za3 ?_ | refine zbe rfl ?_ | refine zae ?_ | refine za6 ?_ | refine za2 rfl ?_ | refine zaa rfl rfl ?_)
   refine zad ⟨.inr rfl, _, rfl, ?_⟩
   show AV.int .i64 3 = AV.int .i64 _
   exact congrArg _ (by simp (decide := true) only [zbq, zb2, zc1, zbg, if_true, if_false]; (repeat' split) <;> omega)
  have h30 := of_decide_eq_false h3
  clear h3
  repeat (first | refine za7 ?_ | refine za0 rfl ?_ | refine za4 ?_ | refine za3 ?_ | refine zc2 ?_ | refine zai ?_ | refine zab ?_ | refine zbe rfl ?_ | refine zbi rfl ?_ | refine za2 rfl ?_ | refine zam rfl rfl ?_ | refine za8 rfl ?_ | refine zaa rfl rfl ?_ | refine zbm rfl rfl rfl ?_)
  refine zar rfl rfl rfl (fun h4 => ?_) fun h4 => ?_
  ·have h4 := of_decide_eq_true h4
   repeat (first | refine za7 ?_ | refine za0 rfl ?_ | refine za4 ?_ | refine za3 ?_ | refine zbe rfl ?_ | refine zae ?_ | refine za6 ?_ | refine zcz rfl rfl ?_ | refine za2 rfl ?_ | refine zag rfl rfl ?_)
   refine zad ⟨.inr rfl, _, rfl, ?_⟩
   show AV.int .i64 2 = AV.int .i64 _
   exact congrArg _ (by simp (decide := true) only [zbq, zb2, zc1, zbg, if_true, if_false]; (repeat' split) <;> omega)
  have h4a := of_decide_eq_false h4
  clear h4
  repeat (first | refine zbz rfl ?_ | refine za2 rfl ?_ | refine zam rfl rfl ?_ | refine za8 rfl ?_)
  refine zar rfl rfl rfl (fun h4 => ?_) fun h4 => ?_
  ·have h4 := of_decide_eq_true h4
   repeat (first | refine za7 ?_ | refine za0 rfl ?_ | refine za4 ?_ | refine za3 ?_ | refine zbe rfl ?_ | refine zae ?_ | refine za6 ?_ | refine za2 rfl ?_ | refine zaa rfl rfl ?_)
   refine zad ⟨.inr rfl, _, rfl, ?_⟩
   show AV.int .i64 2 = AV.int .i64 _
   exact congrArg _ (by simp (decide := true) only [zbq, zb2, zc1, zbg, if_true, if_false]; (repeat' split) <;> omega)
  have h4b := of_decide_eq_false h4
  repeat (first | refine za7 ?_ | refine za0 rfl ?_ | refine za4 ?_ | refine za3 ?_ | refine zab ?_ | refine zbi rfl ?_ | refine zae ?_ | refine za2 rfl ?_ | refine zaa rfl rfl ?_)
  refine zad ⟨.inr rfl, _, rfl, ?_⟩
  show AV.int .i64 0 = AV.int .i64 _
  exact congrArg _ (by simp (decide := true) only [zbq, zb2, zc1, zbg, if_true, if_false]; (repeat' split) <;> omega)
 ·repeat (first | refine za7 ?_ | refine za0 rfl ?_ | refine za4 ?_ | refine za3 ?_ | refine zbz rfl ?_ | refine za2 rfl ?_ | refine zam rfl rfl ?_ | refine zak rfl rfl rfl rfl rfl rfl rfl ?_ | refine za8 rfl ?_ | refine zat ?_ | refine zb7 rfl rfl ?_ | refine zb4 rfl rfl rfl rfl ?_ | refine zav rfl rfl rfl ?_)
  refine zar rfl rfl rfl (fun h3 => ?_) fun h3 => ?_
  ·have h3 := of_decide_eq_true h3
   repeat (first | refine za7 ?_ | refine za0 rfl ?_ | refine za4 ?_ | refine za3 ?_ | refine zbe rfl ?_ | refine zae ?_ | refine za6 ?_ | refine za2 rfl ?_ | refine zaa rfl rfl ?_)
   refine zad ⟨.inr rfl, _, rfl, ?_⟩
   show AV.int .i64 3 = AV.int .i64 _
   exact congrArg _ (by simp (decide := true) only [zbq, zb2, zc1, zbg, if_true, if_false]; (repeat' split) <;> omega)
  have h30 := of_decide_eq_false h3
  clear h3
  repeat (first | refine za7 ?_ | refine za0 rfl ?_ | refine za4 ?_ | refine za3 ?_ | refine zc2 ?_ | refine zai ?_ | refine zab ?_ | refine zbe rfl ?_ | refine zbi rfl ?_ | refine za2 rfl ?_ | refine zam rfl rfl ?_ | refine za8 rfl ?_ | refine zaa rfl rfl ?_ | refine zb8 (op := .sub) rfl rfl rfl ?_ | refine zbm rfl rfl rfl ?_ | refine zav rfl rfl rfl ?_)
  refine zar rfl rfl rfl (fun h4 => ?_) fun h4 => ?_
  ·have h4 := of_decide_eq_true h4
   repeat (first | refine za7 ?_ | refine za0 rfl ?_ | refine za4 ?_ | refine za3 ?_ | refine zbe rfl ?_ | refine zae ?_ | refine za6 ?_ | refine zcz rfl rfl ?_ | refine za2 rfl ?_ | refine zag rfl rfl ?_)
   refine zad ⟨.inr rfl, _, rfl, ?_⟩
   show AV.int .i64 2 = AV.int .i64 _
   exact congrArg _ (by simp (decide := true) only [zbq, zb2, zc1, zbg, if_true, if_false]; (repeat' split) <;> omega)
  have h4a := of_decide_eq_false h4
  clear h4
  repeat (first | refine zbz rfl ?_ | refine za2 rfl ?_ | refine zam rfl rfl ?_ | refine za8 rfl ?_)
  refine zar rfl rfl rfl (fun h4 => ?_) fun h4 => ?_
  ·have h4 := of_decide_eq_true h4
   rw [zkc n hn] at h4
   repeat (first | refine za7 ?_ | refine za0 rfl ?_ | refine za4 ?_ | refine za3 ?_ | refine zbe rfl ?_ | refine zae ?_ | refine za6 ?_ | refine za2 rfl ?_ | refine zaa rfl rfl ?_)
   refine zad ⟨.inr rfl, _, rfl, ?_⟩
   show AV.int .i64 2 = AV.int .i64 _
   exact congrArg _ (by simp (decide := true) only [zbq, zb2, zc1, zbg, if_true, if_false]; (repeat' split) <;> omega)
  have h4b := of_decide_eq_false h4
  rw [zkc n hn] at h4b
  repeat (first | refine za7 ?_ | refine za0 rfl ?_ | refine za4 ?_ | refine za3 ?_ | refine zab ?_ | refine zbi rfl ?_ | refine zae ?_ | refine za2 rfl ?_ | refine zaa rfl rfl ?_)
  refine zad ⟨.inr rfl, _, rfl, ?_⟩
  show AV.int .i64 0 = AV.int .i64 _
  exact congrArg _ (by simp (decide := true) only [zbq, zb2, zc1, zbg, if_true, if_false]; (repeat' split) <;> omega)
 ·repeat (first | refine za7 ?_ | refine za0 rfl ?_ | refine za4 ?_ | refine za3 ?_ | refine zam rfl rfl ?_ | refine zak rfl rfl rfl rfl rfl rfl rfl ?_ | refine za8 rfl ?_ | refine zat ?_ | refine zb7 rfl rfl ?_ | refine zb4 rfl rfl rfl rfl ?_)
  refine zar rfl rfl rfl (fun h3 => ?_) fun h3 => ?_
  ·have h3 := of_decide_eq_true h3
   repeat (first | refine za7 ?_ | refine za0 rfl ?_ | refine za4 ?_ | refine za3 ?_ | refine zbe rfl ?_ | refine zae ?_ | refine za6 ?_ | refine zcz rfl rfl ?_ | refine za2 rfl ?_ | refine zag rfl rfl ?_)
   refine zad ⟨.inr rfl, _, rfl, ?_⟩
   show AV.int .i64 3 = AV.int .i64 _
   exact congrArg _ (by simp (decide := true) only [zbq, zb2, zc1, zbg, if_true, if_false]; (repeat' split) <;> omega)
  have h30 := of_decide_eq_false h3
  clear h3
  repeat (first | refine zbz rfl ?_ | refine za2 rfl ?_ | refine zam rfl rfl ?_ | refine za8 rfl ?_ | refine zb7 rfl rfl ?_)
  refine zar rfl rfl rfl (fun h3 => ?_) fun h3 => ?_
  ·have h3 := of_decide_eq_true h3
   repeat (first | refine za7 ?_ | refine za0 rfl ?_ | refine za4 ?_ | refine za3 ?_ | refine zbe rfl ?_ | refine zae ?_ | refine za6 ?_ | refine za2 rfl ?_ | refine zaa rfl rfl ?_)
   refine zad ⟨.inr rfl, _, rfl, ?_⟩
   show AV.int .i64 3 = AV.int .i64 _
   exact congrArg _ (by simp (decide := true) only [zbq, zb2, zc1, zbg, if_true, if_false]; (repeat' split) <;> omega)
  have h31 := of_decide_eq_false h3
  clear h3
  repeat (first | refine za7 ?_ | refine za0 rfl ?_ | refine za4 ?_ | refine za3 ?_ | refine zc2 ?_ | refine zai ?_ | refine zab ?_ | refine zbi rfl ?_ | refine za2 rfl ?_ | refine zam rfl rfl ?_ | refine za8 rfl ?_ | refine zaa rfl rfl ?_ | refine zav rfl rfl rfl ?_)
  refine zar rfl rfl rfl (fun h4 => ?_) fun h4 => ?_
  ·have h4 := of_decide_eq_true h4
   repeat (first | refine za7 ?_ | refine za0 rfl ?_ | refine za4 ?_ | refine za3 ?_ | refine zbe rfl ?_ | refine zae ?_ | refine za6 ?_ | refine zcz rfl rfl ?_ | refine za2 rfl ?_ | refine zag rfl rfl ?_)
   refine zad ⟨.inr rfl, _, rfl, ?_⟩
   show AV.int .i64 2 = AV.int .i64 _
   exact congrArg _ (by simp (decide := true) only [zbq, zb2, zc1, zbg, if_true, if_false]; (repeat' split) <;> omega)
  have h4a := of_decide_eq_false h4
  clear h4
  repeat (first | refine zbz rfl ?_ | refine za2 rfl ?_ | refine zam rfl rfl ?_ | refine za8 rfl ?_)
  refine zar rfl rfl rfl (fun h4 => ?_) fun h4 => ?_
  ·have h4 := of_decide_eq_true h4
   repeat (first | refine za7 ?_ | refine za0 rfl ?_ | refine za4 ?_ | refine za3 ?_ | refine zbe rfl ?_ | refine zae ?_ | refine za6 ?_ | refine za2 rfl ?_ | refine zaa rfl rfl ?_)
   refine zad ⟨.inr rfl, _, rfl, ?_⟩
   show AV.int .i64 2 = AV.int .i64 _
   exact congrArg _ (by simp (decide := true) only [zbq, zb2, zc1, zbg, if_true, if_false]; (repeat' split) <;> omega)
  have h4b := of_decide_eq_false h4
  repeat (first | refine za7 ?_ | refine za0 rfl ?_ | refine za4 ?_ | refine za3 ?_ | refine zab ?_ | refine zbi rfl ?_ | refine zae ?_ | refine za2 rfl ?_ | refine zaa rfl rfl ?_)
  refine zad ⟨.inr rfl, _, rfl, ?_⟩
  show AV.int .i64 0 = AV.int .i64 _
  exact congrArg _ (by simp (decide := true) only [zbq, zb2, zc1, zbg, if_true, if_false]; (repeat' split) <;> omega)
 ·repeat (first | refine za7 ?_ | refine za0 rfl ?_ | refine za4 ?_ | refine za3 ?_ | refine zam rfl rfl ?_ | refine zak rfl rfl rfl rfl rfl rfl rfl ?_ | refine za8 rfl ?_ | refine zat ?_ | refine zb7 rfl rfl ?_ | refine zb4 rfl rfl rfl rfl ?_)
  refine zar rfl rfl rfl (fun h3 => ?_) fun h3 => ?_
  ·have h3 := of_decide_eq_true h3
   repeat (first | refine za7 ?_ | refine za0 rfl ?_ | refine za4 ?_ | refine za3 ?_ | refine zbe rfl ?_ | refine zae ?_ | refine za6 ?_ | refine zcz rfl rfl ?_ | refine za2 rfl ?_ | refine zag rfl rfl ?_)
   refine zad ⟨.inr rfl, _, rfl, ?_⟩
   show AV.int .i64 3 = AV.int .i64 _
   exact congrArg _ (by simp (decide := true) only [zbq, zb2, zc1, zbg, if_true, if_false]; (repeat' split) <;> omega)
  have h30 := of_decide_eq_false h3
  clear h3
  repeat (first | refine zbz rfl ?_ | refine za2 rfl ?_ | refine zam rfl rfl ?_ | refine za8 rfl ?_ | refine zb7 rfl rfl ?_)
  refine zar rfl rfl rfl (fun h3 => ?_) fun h3 => ?_
  ·have h3 := of_decide_eq_true h3
   repeat (first | refine za7 ?_ | refine za0 rfl ?_ | refine za4 ?_ | refine za3 ?_ | refine zbe rfl ?_ | refine zae ?_ | refine za6 ?_ | refine za2 rfl ?_ | refine zaa rfl rfl ?_)
   refine zad ⟨.inr rfl, _, rfl, ?_⟩
   show AV.int .i64 3 = AV.int .i64 _
   exact congrArg _ (by simp (decide := true) only [zbq, zb2, zc1, zbg, if_true, if_false]; (repeat' split) <;> omega)
  have h31 := of_decide_eq_false h3
  clear h3
  repeat (first | refine za7 ?_ | refine za0 rfl ?_ | refine za4 ?_ | refine za3 ?_ | refine zc2 ?_ | refine zai ?_ | refine zab ?_ | refine zbi rfl ?_ | refine za2 rfl ?_ | refine zam rfl rfl ?_ | refine za8 rfl ?_ | refine zaa rfl rfl ?_ | refine zav rfl rfl rfl ?_)
  refine zar rfl rfl rfl (fun h4 => ?_) fun h4 => ?_
  ·have h4 := of_decide_eq_true h4
   repeat (first | refine za7 ?_ | refine za0 rfl ?_ | refine za4 ?_ | refine za3 ?_ | refine zbe rfl ?_ | refine zae ?_ | refine za6 ?_ | refine zcz rfl rfl ?_ | refine za2 rfl ?_ | refine zag rfl rfl ?_)
   refine zad ⟨.inr rfl, _, rfl, ?_⟩
   show AV.int .i64 2 = AV.int .i64 _
   exact congrArg _ (by simp (decide := true) only [zbq, zb2, zc1, zbg, if_true, if_false]; (repeat' split) <;> omega)
  have h4a := of_decide_eq_false h4
  clear h4
  repeat (first | refine zbz rfl ?_ | refine za2 rfl ?_ | refine zam rfl rfl ?_ | refine za8 rfl ?_)
  refine zar rfl rfl rfl (fun h4 => ?_) fun h4 => ?_
  ·have h4 := of_decide_eq_true h4
   repeat (first | refine za7 ?_ | refine za0 rfl ?_ | refine za4 ?_ | refine za3 ?_ | refine zbe rfl ?_ | refine zae ?_ | refine za6 ?_ | refine za2 rfl ?_ | refine zaa rfl rfl ?_)
   refine zad ⟨.inr rfl, _, rfl, ?_⟩
   show AV.int .i64 2 = AV.int .i64 _
   exact congrArg _ (by simp (decide := true) only [zbq, zb2, zc1, zbg, if_true, if_false]; (repeat' split) <;> omega)
  have h4b := of_decide_eq_false h4
  repeat (first | refine za7 ?_ | refine za0 rfl ?_ | refine za4 ?_ | refine za3 ?_ | refine zab ?_ | refine zbi rfl ?_ | refine zae ?_ | refine za2 rfl ?_ | refine zaa rfl rfl ?_)
  refine zad ⟨.inr rfl, _, rfl, ?_⟩
  show AV.int .i64 0 = AV.int .i64 _
  exact congrArg _ (by simp (decide := true) only [zbq, zb2, zc1, zbg, if_true, if_false]; (repeat' split) <;> omega)
 ·repeat (first | refine za7 ?_ | refine za0 rfl ?_ | refine za4 ?_ | refine za3 ?_ | refine zam rfl rfl ?_ | refine zak rfl rfl rfl rfl rfl rfl rfl ?_ | refine za8 rfl ?_ | refine zat ?_ | refine zb7 rfl rfl ?_ | refine zb4 rfl rfl rfl rfl ?_)
  refine zar rfl rfl rfl (fun h3 => ?_) fun h3 => ?_
  ·have h3 := of_decide_eq_true h3
   repeat (first | refine za7 ?_ | refine za0 rfl ?_ | refine za4 ?_ | refine za3 ?_ | refine zbe rfl ?_ | refine zae ?_ | refine za6 ?_ | refine zcz rfl rfl ?_ | refine za2 rfl ?_ | refine zag rfl rfl ?_)
   refine zad ⟨.inr rfl, _, rfl, ?_⟩
   show AV.int .i64 3 = AV.int .i64 _
   exact congrArg _ (by simp (decide := true) only [zbq, zb2, zc1, zbg, if_true, if_false]; (repeat' split) <;> omega)
  have h30 := of_decide_eq_false h3
  clear h3
  repeat (first | refine zbz rfl ?_ | refine za2 rfl ?_ | refine zam rfl rfl ?_ | refine za8 rfl ?_ | refine zb7 rfl rfl ?_)
  refine zar rfl rfl rfl (fun h3 => ?_) fun h3 => ?_
  ·have h3 := of_decide_eq_true h3
   repeat (first | refine za7 ?_ | refine za0 rfl ?_ | refine za4 ?_ | refine za3 ?_ | refine zbe rfl ?_ | refine zae ?_ | refine za6 ?_ | refine za2 rfl ?_ | refine zaa rfl rfl ?_)
   refine zad ⟨.inr rfl, _, rfl, ?_⟩
   show AV.int .i64 3 = AV.int .i64 _
   exact congrArg _ (by simp (decide := true) only [zbq, zb2, zc1, zbg, if_true, if_false]; (repeat' split) <;> omega)
  have h31 := of_decide_eq_false h3
  clear h3
  repeat (first | refine za7 ?_ | refine za0 rfl ?_ | refine za4 ?_ | refine za3 ?_ | refine zc2 ?_ | refine zai ?_ | refine zab ?_ | refine zbi rfl ?_ | refine za2 rfl ?_ | refine zam rfl rfl ?_ | refine za8 rfl ?_ | refine zaa rfl rfl ?_ | refine zav rfl rfl rfl ?_)
  refine zar rfl rfl rfl (fun h4 => ?_) fun h4 => ?_
  ·have h4 := of_decide_eq_true h4
   repeat (first | refine za7 ?_ | refine za0 rfl ?_ | refine za4 ?_ | refine za3 ?_ | refine zbe rfl ?_ | refine zae ?_ | refine za6 ?_ | refine zcz rfl rfl ?_ | refine za2 rfl ?_ | refine zag rfl rfl ?_)
   refine zad ⟨.inr rfl, _, rfl, ?_⟩
   show AV.int .i64 2 = AV.int .i64 _
   exact congrArg _ (by simp (decide := true) only [zbq, zb2, zc1, zbg, if_true, if_false]; (repeat' split) <;> omega)
  have h4a := of_decide_eq_false h4
  clear h4
  repeat (first | refine zbz rfl ?_ | refine za2 rfl ?_ | refine zam rfl rfl ?_ | refine za8 rfl ?_)
  refine zar rfl rfl rfl (fun h4 => ?_) fun h4 => ?_
  ·have h4 := of_decide_eq_true h4
   repeat (first | refine za7 ?_ | refine za0 rfl ?_ | refine za4 ?_ | refine za3 ?_ | refine zbe rfl ?_ | refine zae ?_ | refine za6 ?_ | refine za2 rfl ?_ | refine zaa rfl rfl ?_)
   refine zad ⟨.inr rfl, _, rfl, ?_⟩
   show AV.int .i64 2 = AV.int .i64 _
   exact congrArg _ (by simp (decide := true) only [zbq, zb2, zc1, zbg, if_true, if_false]; (repeat' split) <;> omega)
  have h4b := of_decide_eq_false h4
  repeat (first | refine za7 ?_ | refine za0 rfl ?_ | refine za4 ?_ | refine za3 ?_ | refine zab ?_ | refine zbi rfl ?_ | refine zae ?_ | refine za2 rfl ?_ | refine zaa rfl rfl ?_)
  refine zad ⟨.inr rfl, _, rfl, ?_⟩
  show AV.int .i64 0 = AV.int .i64 _
  exact congrArg _ (by simp (decide := true) only [zbq, zb2, zc1, zbg, if_true, if_false]; (repeat' split) <;> omega)
end Go.Proofs.Ytmnkjofaodbokaa
namespace Go.Proofs.Ytmnkjofaodbokaa
open Go Go.Am
section
variable {P : Program} {w0 : World} {N0 : Nat}
theorem zrz {id sp size : Nat} {args : List AV} {ltm l0 : List (Nat × AV)} {ps : List Nat} {ca cb : Code} {df : Nat × Nat} {ia ib : IC} {H : HS} {F : AV → HS → Prop} (hl : Am.look id H.heap = some (sp, .loop .ready none size (zeg ltm) ps ca cb df))
  (ha : Com P ca ia) (hb : Com P cb ib) (hps : ps.length = args.length) (hlt : ∀ p ∈ ps, p < size) (hput : zhd ps args (zeg ltm) = zeg l0)
  (h : Zm P w0 N0 (some (some (id, sp))) ia (st size l0 H.heap H.next H.clk) [] fun e S1 => e = .normal ∧ ∃ l1 hp1 n1 c1, S1 = st size l1 hp1 n1 c1 ∧ Am.look id hp1 = some (sp, .loop .ready none size (zeg ltm) ps ca cb df) ∧
   Zm P w0 N0 (some (some (id, sp))) ib (st size l1 (zb6 id (sp, .loop .busy none size (zeg ltm) ps ca cb df) hp1) n1 c1) [] (zo6 id sp F)) : CT P w0 N0 (.yield id sp) args H F := by
 refine zkd hl ha hb hps hlt ?_
 have e : AS.round size (zeg ltm) ps args H = st size l0 H.heap H.next H.clk := by
  unfold AS.round st
  rw [hput]
 rw [e]
 refine zdy h.ok fun e S1 ⟨he, l1, hp1, n1, c1, hS, hlk, hz⟩ => ⟨he, ?_⟩
 subst hS
 exact ⟨size, zeg ltm, ps, ca, cb, df, hlk, hz.ok⟩
end
theorem zmn {S : AS} {a : Nat} {pa va : AV} {ra : List AV} (h1 : S.get a = some pa) (d1 : S.deref pa = some (va :: ra)) : S.res [.cell a none] = some va := by
 simp [AS.res, AS.resL, znr, h1, d1]
noncomputable def ca32 : Code := match env0.fn 32 with
 | some i => ((zd2 i.ic).headD (.skip, .skip)).1
 | none => .skip
noncomputable def cb32 : Code := match env0.fn 32 with
 | some i => ((zd2 i.ic).headD (.skip, .skip)).2
 | none => .skip
def asg32 : IC := .region [⟨(some 9), .alloc [.int .i64 0, .int .i64 0, .nils], none⟩,
  ⟨none, .store 3 (.t 9) (.t 28), none⟩] none
def zri : IC := .block 1 (.seq (.region [⟨(some 29), .load (some 3) (.t 9), none⟩,
  ⟨(some 30), .load none (.t 3), none⟩,
  ⟨(some 31), .call (.c (.fn 70 [] [])) [(.t 29), (.t 30)], none⟩,
  ⟨(some 10), .mov (.t 31), none⟩] none)
 (.seq (.region [⟨(some 32), .mov (.t 10), none⟩,
  ⟨(some 33), .bin .neq (.t 32) (.c (.int .i64 0)), none⟩] none)
 (.cond (.t 33) (.seq (.region [⟨(some 34), .mov (.t 10), none⟩,
  ⟨none, .store 1 (.t 4) (.t 34), none⟩] none)
 (.ret))
 (.skip))))
-- pneumatic/boolexp.Check
noncomputable def ic32 : IC := .seq (.region [⟨(some 2), .box (.t 0), none⟩,
  ⟨(some 3), .box (.t 1), none⟩,
  ⟨(some 4), .alloc [.int .i64 0], none⟩] none)
 (.seq (.seq (.region [⟨(some 11), .load none (.t 3), none⟩,
  ⟨(some 12), .bin .lss (.t 11) (.c (.int .i64 0)), none⟩,
  ⟨(some 13), .mov (.t 12), none⟩,
  ⟨(some 14), .load none (.t 3), some (13, false)⟩,
  ⟨(some 15), .bin .gtr (.t 14) (.c (.int .i64 256)), some (13, false)⟩,
  ⟨(some 16), .pick (.t 13) (.c (.bool true)) (.t 15), none⟩] none)
 (.cond (.t 16) (.seq (.region [⟨none, .store 1 (.t 4) (.c (.int .i64 2)), none⟩] none)
 (.ret))
 (.skip)))
 (.seq (.seq (.region [⟨(some 18), .load (some 3) (.t 2), none⟩,
  ⟨(some 19), .call (.c (.fn 47 [] [])) [(.t 18)], none⟩,
  ⟨(some 17), .mov (.t 19), none⟩,
  ⟨(some 20), .extract (.t 17) 0, none⟩,
  ⟨(some 21), .extract (.t 17) 1, none⟩,
  ⟨(some 22), .extract (.t 17) 2, none⟩,
  ⟨(some 5), .mov (.t 20), none⟩,
  ⟨(some 6), .mov (.t 21), none⟩,
  ⟨(some 7), .mov (.t 22), none⟩] none)
 (.seq (.region [⟨(some 23), .mov (.t 7), none⟩,
  ⟨(some 24), .un .not (.t 23), none⟩] none)
 (.cond (.t 24) (.seq (.region [⟨none, .store 1 (.t 4) (.c (.int .i64 5)), none⟩] none)
 (.ret))
 (.skip))))
 (.seq (.seq (.region [⟨(some 25), .load (some 3) (.t 2), none⟩,
  ⟨(some 26), .call (.c (.fn 63 [] [])) [(.t 25)], none⟩] none)
 (.block 0 (.rangeFunc (.t 26) [27, 28] ca32 cb32 asg32 zri)))
 (.seq (.region [⟨none, .store 1 (.t 4) (.c (.int .i64 0)), none⟩] none)
 (.ret)))))
theorem fn32 : env0.fn 32 = some ⟨35, ic32, [.cell 4 none]⟩ := by kernel_rfl
def ztd (n : Int) : Ex → Int
 | .nd op ix args => zbq op ix args.length n
def zmu (n : Int) (s : Unit) (_ : Int) (x : Ex) : Unit ⊕ Int := if ztd n x = 0 then .inl s else .inr (ztd n x)
structure I59 (ltm : List (Nat × AV)) (n : Int) (_ : Unit) (H : HS) : Prop where
 nx : 5 ≤ H.next
 h4 : Am.look 4 H.heap = some (4, .loop .ready none 35 (zeg ltm) [27, 28] ca32 cb32 (3, 3))
 h3 : Am.look 3 H.heap = some (3, .deferred)
 h2 : Am.look 2 H.heap = some (2, .cells [.int .i64 0])
 h1 : Am.look 1 H.heap = some (1, .cells [.int .i64 n])
structure J59 (t : Int) (H : HS) : Prop where
 nx : 5 ≤ H.next
 h4 : ∃ tm, Am.look 4 H.heap = some (4, .loop .done (some .ret) 35 tm [27, 28] ca32 cb32 (3, 3))
 h3 : Am.look 3 H.heap = some (3, .deferred)
 h2 : Am.look 2 H.heap = some (2, .cells [.int .i64 t])
theorem local59 (ltm : List (Nat × AV)) (n : Int) : Local (fun i => i < 5) (I59 ltm n) :=
 ⟨fun s H h i hi => Nat.lt_of_lt_of_le hi h.nx, fun s H H' h hn hl =>
  ⟨Nat.le_trans h.nx hn, (hl 4 (by decide)).trans h.h4, (hl 3 (by decide)).trans h.h3, (hl 2 (by decide)).trans h.h2, (hl 1 (by decide)).trans h.h1⟩⟩
set_option maxHeartbeats 2000000 in
theorem yield59 {w0 : World} {N0 : Nat} (ltm : List (Nat × AV)) (g3 : zbc (.t 3) ltm = some (.mptr 1 1 0)) (g4 : zbc (.t 4) ltm = some (.mptr 2 2 0)) (n : Int) (hn : 0 ≤ n ∧ n ≤ 256) (ha : Com Try.prog ca32 asg32) (hb : Com Try.prog cb32 zri) (s : Unit) (d : Int) (x : Ex) (H : HS) (h : I59 ltm n s H) :
  CT Try.prog w0 N0 (.yield 4 4) [.int .i64 d, .agg (cX x)] H (Left (fun i => i < 5) (I59 ltm n) J59 H (zmu n s d x)) := by
 obtain ⟨op, ix, args⟩ := x
 obtain ⟨nx, h4, h3, h2, h1⟩ := h
 have q4 : H.next ≠ 4 := by omega
 refine zrz (l0 := (28, .agg (cX (.nd op ix args))) :: (27, .int .i64 d) :: ltm) h4 ha hb rfl (by decide) rfl ?_
 unfold asg32
 repeat (first | refine za0 rfl ?_ | refine zat ?_)
 refine zak (sp := H.clk) (cs := [.int .i64 0, .int .i64 0, .nils]) rfl rfl rfl rfl zb9 rfl rfl ?_
 repeat (first | refine za4 ?_)
 refine zad ⟨rfl, _, _, _, _, rfl, ?_, ?_⟩
 ·rw [zhs, zaj, if_neg (by omega)]; exact h4
 rw [zhs]
 unfold zri
 repeat (first | refine za7 ?_ | refine za0 rfl ?_ | refine zai ?_)
 refine zl3 (sp := H.clk) (cs := cX (.nd op ix args)) rfl (by rw [za1, if_neg (by omega)]; exact zb9) (by omega) rfl rfl ?_
 refine ze3 (sp := 1) (cs := [.int .i64 n]) g3 (by rw [za1, if_neg (by decide), zd1 (by omega)]; exact h1) (by omega) rfl ?_
 refine zay rfl rfl (node88 op ix n args hn) (fun h => Bool.noConfusion (show false = true from h)) ?_
 repeat (first | refine za7 ?_ | refine za0 rfl ?_ | refine za4 ?_ | refine za3 ?_ | refine za2 rfl ?_)
 refine zar rfl rfl rfl (fun hg => ?_) fun hg => ?_
 ·have hg := bne_iff_ne.1 hg
  repeat (first | refine za7 ?_ | refine za0 rfl ?_ | refine za4 ?_ | refine za3 ?_ | refine zbe rfl ?_ | refine za2 rfl ?_)
  refine zak (sp := 2) (cs := [.int .i64 0]) g4 rfl rfl rfl (by rw [za1, if_neg (by decide), zd1 (by omega)]; exact h2) rfl rfl ?_
  repeat (first | refine za4 ?_ | refine za3 ?_ | refine zae ?_ | refine zaf ?_)
  refine zad ⟨35, zeg ltm, [27, 28], ca32, cb32, (3, 3), ?_, some .ret, rfl, ⟨Nat.le_succ _, Nat.le_succ _, fun i hi hj => ?_⟩, ?_⟩
  ·dsimp only [st]
   rw [za1, if_neg (by decide), za1, if_pos rfl]
  ·dsimp only [st]
   rw [za1, if_neg (by omega), za1, if_neg (by omega), za1, if_neg (by omega), zd1 (by omega)]
  ·unfold zmu
   rw [if_neg (show ¬ ztd n (.nd op ix args) = 0 from hg)]
   refine ⟨rfl, Nat.le_succ_of_le nx, ⟨zeg ltm, ?_⟩, ?_, ?_⟩
   ·dsimp only [st]
    rw [za1, if_pos rfl]; rfl
   ·dsimp only [st]
    rw [za1, if_neg (by decide), za1, if_neg (by decide), za1, if_neg (by decide), zd1 (by omega)]; exact h3
   ·dsimp only [st]
    rw [za1, if_neg (by decide), za1, if_pos rfl]; rfl
 ·have hg : zbq op ix args.length n = 0 := by simpa using hg
  repeat (first | refine za4 ?_ | refine za3 ?_ | refine zc2 ?_ | refine zab ?_ | refine zbi rfl ?_)
  refine zad ⟨35, zeg ltm, [27, 28], ca32, cb32, (3, 3), ?_, none, rfl, ⟨Nat.le_succ _, Nat.le_succ _, fun i hi hj => ?_⟩, ?_⟩
  ·dsimp only [st]
   rw [za1, if_pos rfl]
  ·dsimp only [st]
   rw [za1, if_neg (by omega), za1, if_neg (by omega), zd1 (by omega)]
  ·unfold zmu
   rw [if_pos (show ztd n (.nd op ix args) = 0 from hg)]
   refine ⟨rfl, Nat.le_succ_of_le nx, ?_, ?_, ?_, ?_⟩
   ·dsimp only [st]
    rw [za1, if_pos rfl]; rfl
   all_goals
    dsimp only [st]
    rw [za1, if_neg (by decide), za1, if_neg (by decide), zd1 (by omega)]
   ·exact h3
   ·exact h2
   ·exact h1
def zid (x : Ex) (n : Int) : Int := if n < 0 ∨ n > 256 then 2 else match zem zf2 1 x (0, 0) with
 | .inr _ => 5
 | .inl _ => match zem (zmu n) 1 x () with
  | .inl _ => 0
  | .inr t => t
set_option maxHeartbeats 2000000 in
theorem zrp (x : Ex) (hs : Slim x) (n : Int) : PF Try.prog 32 [.agg (cX x), .int .i64 n] (.int .i64 (zid x n)) := by
 obtain ⟨op, ix, args⟩ := x
 refine zbl env0_ok fn32 [(0, .agg (cX (.nd op ix args))), (1, .int .i64 n)] (by show 2 ≤ 35; decide) rfl fun w0 N0 => ?_
 unfold ic32
 repeat (first | refine za7 ?_ | refine za0 rfl ?_ | refine za4 ?_ | refine za3 ?_ | refine zam rfl rfl ?_ | refine zat ?_ | refine zc5 rfl rfl ?_)
 refine zar rfl rfl rfl (fun hl => ?_) fun hl => ?_
 ·have hl := of_decide_eq_true hl
  repeat (first | refine za7 ?_ | refine za0 rfl ?_ | refine za4 ?_ | refine za3 ?_ | refine zbe rfl ?_ | refine zae ?_ | refine za6 ?_ | refine zcz rfl rfl ?_ | refine za2 rfl ?_ | refine zak rfl rfl rfl rfl rfl rfl rfl ?_ | refine zag rfl rfl ?_)
  refine zad ⟨.inr rfl, _, rfl, ?_⟩
  unfold zid
  rw [if_pos (.inl hl)]
  rfl
 have hl := of_decide_eq_false hl
 repeat (first | refine zbz rfl ?_ | refine za2 rfl ?_ | refine zam rfl rfl ?_)
 refine zar rfl rfl rfl (fun hm => ?_) fun hm => ?_
 ·have hm := of_decide_eq_true hm
  repeat (first | refine za7 ?_ | refine za0 rfl ?_ | refine za4 ?_ | refine za3 ?_ | refine zbe rfl ?_ | refine zae ?_ | refine za6 ?_ | refine zak rfl rfl rfl rfl rfl rfl rfl ?_ | refine zaa rfl rfl ?_)
  refine zad ⟨.inr rfl, _, rfl, ?_⟩
  unfold zid
  rw [if_pos (.inr hm)]
  rfl
 have hm := of_decide_eq_false hm
 have hn : 0 ≤ n ∧ n ≤ 256 := ⟨by omega, by omega⟩
 unfold zid
 rw [if_neg (fun h => h.elim hl hm)]
 repeat (first | refine za7 ?_ | refine za0 rfl ?_ | refine za4 ?_ | refine za3 ?_ | refine zab ?_ | refine zbi rfl ?_ | refine zap rfl rfl rfl rfl ?_ | refine zaa rfl rfl ?_)
 have hme := zme (.nd op ix args) hs
 unfold zgg at hme
 cases hwk : zem zf2 1 (.nd op ix args) (0, 0) with
 | inr u =>
  rw [hwk] at hme
  refine zay rfl rfl hme (fun h => Bool.noConfusion (show false = true from h)) ?_
  repeat (first | refine za7 ?_ | refine za0 rfl ?_ | refine za4 ?_ | refine za3 ?_ | refine zbe rfl ?_ | refine zae ?_ | refine za6 ?_ | refine za2 rfl ?_ | refine zak rfl rfl rfl rfl rfl rfl rfl ?_ | refine ze6 rfl rfl ?_ | refine zb3 rfl rfl ?_)
  refine zad ⟨.inr rfl, _, rfl, rfl⟩
 | inl nm =>
  obtain ⟨nn, mm⟩ := nm
  rw [hwk] at hme
  refine zay rfl rfl hme (fun h => Bool.noConfusion (show false = true from h)) ?_
  repeat (first | refine za7 ?_ | refine za0 rfl ?_ | refine za4 ?_ | refine za3 ?_ | refine zab ?_ | refine zbi rfl ?_ | refine za2 rfl ?_ | refine zap rfl rfl rfl rfl ?_ | refine ze6 rfl rfl ?_ | refine zb3 rfl rfl ?_)
  refine zay rfl rfl (zk2 (.nd op ix args)) (fun h => Bool.noConfusion (show false = true from h)) ?_
  repeat (first | refine za4 ?_ | refine za3 ?_ | refine zai ?_)
  refine zuk (.inl rfl) rfl fun ha hb => (zp9 (local59 _ n) (fun s d x H h => yield59 _ rfl rfl n hn ha hb s d x H h) (.nd op ix args) ⟨_, _, _⟩ () hs ⟨Nat.le_refl _, rfl, rfl, rfl, rfl⟩).mono fun v H2 hF => ?_
  obtain ⟨hK, hF⟩ := hF
  cases hck : zem (zmu n) 1 (.nd op ix args) () with
  | inl s =>
   rw [hck] at hF
   obtain ⟨nx, h4, h3, h2, h1⟩ := hF
   refine ⟨_, _, .normal, _, _, _, _, _, _, h4, by simp, rfl, fun z hz => ?_, ?_⟩
   ·obtain rfl := List.mem_singleton.1 hz
    rw [zac, if_neg (by decide)]; exact h3
   ·repeat (first | refine za7 ?_ | refine za0 rfl ?_ | refine za3 ?_ | refine zc2 ?_)
    refine zak (sp := 2) (cs := [.int .i64 0]) rfl rfl rfl rfl (by rw [zac, if_neg (by decide)]; exact h2) rfl rfl ?_
    repeat (first | refine za4 ?_ | refine za3 ?_ | refine zae ?_)
    refine zad ⟨.inr rfl, .int .i64 0, zmn (zcs 4) (zc4 (sp := 2) (cs := [.int .i64 0]) ?_ ?_), rfl⟩
    ·show Am.look 2 (zbj 3 (zb6 2 _ (zbj 4 H2.heap))) = _
     rw [zac, if_neg (by decide), za1, if_pos rfl]; rfl
    ·show 2 < H2.next; omega
  | inr t =>
   rw [hck] at hF
   obtain ⟨nx, ⟨tm, h4⟩, h3, h2⟩ := hF
   refine ⟨_, _, .ret, _, _, _, _, _, _, h4, by simp, rfl, fun z hz => ?_, ?_⟩
   ·obtain rfl := List.mem_singleton.1 hz
    rw [zac, if_neg (by decide)]; exact h3
   ·repeat (first | refine za6 ?_ | refine zaf ?_)
    refine zad ⟨.inr rfl, .int .i64 t, zmn (zcs 4) (zc4 (sp := 2) (cs := [.int .i64 t]) ?_ ?_), rfl⟩
    ·show Am.look 2 (zbj 3 (zbj 4 H2.heap)) = _
     rw [zac, if_neg (by decide), zac, if_neg (by decide)]; exact h2
    ·show 2 < H2.next; omega
end Go.Proofs.Ytmnkjofaodbokaa
namespace Go.Proofs.Ytmnkjofaodbokaa
open Go Go.Am
def zdg : Nat → Ex → Bool
 | 0, _ => false
 | m + 1, .nd _ _ args => if m = 0 then args.isEmpty else args.all (zdg m)
def body78 : IC := .seq (.seq (.region [⟨(some 14), .mov (.t 5), none⟩,
  ⟨(some 15), .faddr 2 (.t 2), none⟩,
  ⟨(some 16), .load none (.t 15), none⟩,
  ⟨(some 17), .len false (.t 16), none⟩,
  ⟨(some 18), .bin .lss (.t 14) (.t 17), none⟩] none)
 (.cond (.t 18) (.skip)
 (.exit 0)))
 (.seq (.block 1 (.seq (.region [⟨(some 21), .faddr 2 (.t 2), none⟩,
  ⟨(some 22), .load none (.t 21), none⟩,
  ⟨(some 23), .mov (.t 5), none⟩,
  ⟨(some 24), .idxs 3 (.t 22) (.t 23), none⟩,
  ⟨(some 25), .load (some 3) (.t 24), none⟩,
  ⟨(some 26), .mov (.t 1), none⟩,
  ⟨(some 27), .bin .sub (.t 26) (.c (.int .i64 1)), none⟩,
  ⟨(some 28), .call (.c (.fn 78 [] [])) [(.t 25), (.t 27)], none⟩,
  ⟨(some 29), .un .not (.t 28), none⟩] none)
 (.cond (.t 29) (.seq (.region [⟨(some 4), .mov (.c (.bool false)), none⟩] none)
 (.ret))
 (.skip))))
 (.region [⟨(some 19), .mov (.t 5), none⟩,
  ⟨(some 20), .bin .add (.t 19) (.c (.int .i64 1)), none⟩,
  ⟨(some 5), .mov (.t 20), none⟩] none))
-- pneumatic/pneumaticref05.Deep
def ic78 : IC := .seq (.region [⟨(some 2), .box (.t 0), none⟩,
  ⟨(some 4), .mov (.c (.bool false)), none⟩] none)
 (.seq (.seq (.region [⟨(some 6), .mov (.t 1), none⟩,
  ⟨(some 7), .bin .lss (.t 6) (.c (.int .i64 1)), none⟩] none)
 (.cond (.t 7) (.seq (.region [⟨(some 4), .mov (.c (.bool false)), none⟩] none)
 (.ret))
 (.skip)))
 (.seq (.seq (.region [⟨(some 8), .mov (.t 1), none⟩,
  ⟨(some 9), .bin .eql (.t 8) (.c (.int .i64 1)), none⟩] none)
 (.cond (.t 9) (.seq (.region [⟨(some 10), .faddr 2 (.t 2), none⟩,
  ⟨(some 11), .load none (.t 10), none⟩,
  ⟨(some 12), .len false (.t 11), none⟩,
  ⟨(some 13), .bin .eql (.t 12) (.c (.int .i64 0)), none⟩,
  ⟨(some 4), .mov (.t 13), none⟩] none)
 (.ret))
 (.skip)))
 (.seq (.seq (.region [⟨(some 5), .mov (.c (.int .i64 0)), none⟩] none)
 (.block 0 (.loop body78)))
 (.seq (.region [⟨(some 4), .mov (.c (.bool true)), none⟩] none)
 (.ret)))))
theorem fn78 : env0.fn 78 = some ⟨30, ic78, [.t 4]⟩ := by kernel_rfl
theorem zja {op ix : Int} {args : List Ex} (h : Slim (.nd op ix args)) : args.length < 9223372036854775808 ∧ ∀ y ∈ args, Slim y := by
 cases h with | nd h k => exact ⟨h, k⟩
set_option maxHeartbeats 2000000 in
theorem deep73 : ∀ (m : Nat) (x : Ex) (z : Int), z = m → m ≤ 300 → Slim x → PF Try.prog 78 [.agg (cX x), .int .i64 z] (.bool (zdg m x)) := by
 intro m
 induction m with
 | zero =>
  intro x z hz hm hs
  obtain ⟨op, ix, args⟩ := x
  refine zbl env0_ok fn78 [(0, .agg (cX (.nd op ix args))), (1, .int .i64 z)] (by show 2 ≤ 30; decide) rfl fun w0 N0 => ?_
  unfold ic78
  repeat (first | refine za7 ?_ | refine za0 rfl ?_ | refine za4 ?_ | refine za3 ?_ | refine za2 rfl ?_ | refine zc5 rfl rfl ?_)
  refine zar rfl rfl rfl (fun h1 => ?_) fun h1 => ?_
  ·repeat (first | refine za7 ?_ | refine za0 rfl ?_ | refine za4 ?_ | refine za3 ?_ | refine zbe rfl ?_ | refine zae ?_ | refine za6 ?_ | refine za2 rfl ?_)
   exact zad ⟨.inr rfl, _, rfl, rfl⟩
  ·have h1 := of_decide_eq_false h1
   exact absurd hz (by omega)
 | succ m ih =>
  intro x z hz hm hs
  obtain ⟨op, ix, args⟩ := x
  obtain ⟨hlen, hsl⟩ := zja hs
  refine zbl env0_ok fn78 [(0, .agg (cX (.nd op ix args))), (1, .int .i64 z)] (by show 2 ≤ 30; decide) rfl fun w0 N0 => ?_
  unfold ic78
  repeat (first | refine za7 ?_ | refine za0 rfl ?_ | refine za4 ?_ | refine za3 ?_ | refine za2 rfl ?_ | refine zc5 rfl rfl ?_)
  refine zar rfl rfl rfl (fun h1 => ?_) fun h1 => ?_
  ·have h1 := of_decide_eq_true h1
   exact absurd hz (by omega)
  repeat (first | refine za7 ?_ | refine za0 rfl ?_ | refine za4 ?_ | refine za3 ?_ | refine zab ?_ | refine zbi rfl ?_ | refine za2 rfl ?_)
  refine zar rfl rfl rfl (fun h2 => ?_) fun h2 => ?_
  ·have hm0 : m = 0 := by have := beq_iff_eq.1 h2; omega
   subst hm0
   repeat (first | refine za7 ?_ | refine za0 rfl ?_ | refine za4 ?_ | refine za3 ?_ | refine zbe rfl ?_ | refine zam rfl rfl ?_ | refine za8 rfl ?_ | refine zb7 rfl rfl ?_)
   have hd : zdg (0 + 1) (.nd op ix args) = args.isEmpty := rfl
   rw [hd]
   refine zar rfl rfl rfl (fun h3 => ?_) fun h3 => ?_
   ·repeat (first | refine za4 ?_ | refine za3 ?_ | refine zae ?_ | refine za6 ?_ | refine za2 rfl ?_)
    refine zad ⟨.inr rfl, _, rfl, ?_⟩
    have h3 : ((cXs args).length : Int) = 0 := beq_iff_eq.1 h3
    rw [zb0] at h3
    have : args = [] := List.length_eq_zero_iff.1 (by omega)
    subst this
    rfl
   ·repeat (first | refine za4 ?_ | refine za3 ?_ | refine zae ?_ | refine za6 ?_ | refine za2 rfl ?_)
    refine zad ⟨.inr rfl, _, rfl, ?_⟩
    have h3 : ¬ ((cXs args).length : Int) = 0 := by simpa using h3
    rw [zb0] at h3
    cases args with
    | nil => exact absurd rfl h3
    | cons a l => rfl
  have hm0 : m ≠ 0 := by
   have : ¬ z = 1 := by simpa using h2
   omega
  have hd : zdg (m + 1) (.nd op ix args) = args.all (zdg m) := by rw [zdg, if_neg hm0]
  rw [hd]
  repeat (first | refine za7 ?_ | refine za0 rfl ?_ | refine za4 ?_ | refine za3 ?_ | refine zai ?_ | refine zab ?_ | refine zbi rfl ?_ | refine za2 rfl ?_)
  refine zdr (fun mm S => ∃ i, mm = args.length - i ∧ i ≤ args.length ∧ args.all (zdg m) = (args.drop i).all (zdg m) ∧
    S = st 30 [(1, .int .i64 z), (2, .mptr 0 0 0), (5, .int .i64 (i : Nat))] [(0, 0, .cells (cX (.nd op ix args)))] 1 1) args.length
   (zal (.cons rfl (.cons rfl (.cons rfl .nil)))) ⟨0, rfl, Nat.zero_le _, rfl, rfl⟩ ?_
  rintro mm S ⟨i, rfl, hi, hall, rfl⟩
  unfold body78
  repeat (first | refine za7 ?_ | refine za0 rfl ?_ | refine za2 rfl ?_ | refine zam rfl rfl ?_ | refine za8 rfl ?_ | refine zb7 rfl rfl ?_)
  refine zar rfl rfl rfl (fun h3 => ?_) fun h3 => ?_
  ·have hlt : i < args.length := by
    have := of_decide_eq_true h3
    rw [zb0] at this
    omega
   have hdr : args.drop i = args[i] :: args.drop (i + 1) := List.drop_eq_getElem_cons hlt
   rw [hdr] at hall
   have hge := zf7 hlt
   have hmem : args[i] ∈ args := List.getElem_mem hlt
   generalize args[i] = y at hall hge hmem
   obtain ⟨yo, yi, ya⟩ := y
   repeat (first | refine za7 ?_ | refine za0 rfl ?_ | refine za4 ?_ | refine za3 ?_ | refine zai ?_ | refine zab ?_ | refine zbe rfl ?_ | refine za2 rfl ?_ | refine zam rfl rfl ?_ | refine za8 rfl ?_)
   refine zbu rfl rfl (Int.natCast_nonneg i) hge rfl ?_
   repeat (first | refine za2 rfl ?_ | refine zap rfl rfl rfl rfl ?_ | refine zb8 (op := .sub) rfl rfl rfl ?_)
   rw [show IntKind.wrap .i64 (z - 1) = z - 1 from wrap_small _ (by omega) (by omega)]
   have hc := ih (.nd yo yi ya) (z - 1) (by omega) (by omega) (hsl _ hmem)
   rw [List.all_cons] at hall
   cases hb : zdg m (.nd yo yi ya) with
   | true =>
    rw [hb] at hc hall
    rw [Bool.true_and] at hall
    refine zay rfl rfl hc (fun h => Bool.noConfusion (show false = true from h)) ?_
    repeat (first | refine za0 rfl ?_ | refine za4 ?_ | refine za3 ?_ | refine zc2 ?_ | refine zab ?_ | refine zbi rfl ?_ | refine za2 rfl ?_ | refine ze6 rfl rfl ?_ | refine zb8 (op := .add) rfl rfl rfl ?_)
    rw [zbb i (by omega)]
    exact zcj (show args.length - (i + 1) < args.length - i by omega) (zal (.cons rfl (.cons rfl (.cons rfl .nil)))) ⟨i + 1, rfl, hlt, hall, rfl⟩
   | false =>
    rw [hb] at hc hall
    rw [Bool.false_and] at hall
    refine zay rfl rfl hc (fun h => Bool.noConfusion (show false = true from h)) ?_
    repeat (first | refine za7 ?_ | refine za0 rfl ?_ | refine za4 ?_ | refine za3 ?_ | refine zbe rfl ?_ | refine zae ?_ | refine za6 ?_ | refine zaf ?_ | refine za2 rfl ?_ | refine ze6 rfl rfl ?_)
    refine zjc ?_
    repeat (first | refine za6 ?_ | refine zaf ?_)
    refine zad ⟨.inr rfl, _, rfl, ?_⟩
    rw [hall]
    rfl
  ·have hi2 : i = args.length := by
    have := of_decide_eq_false h3
    rw [zb0] at this
    omega
   repeat (first | refine za4 ?_ | refine za3 ?_ | refine zbi rfl ?_ | refine zbp ?_ | refine zah ?_)
   refine zeh ?_
   repeat (first | refine za7 ?_ | refine za0 rfl ?_ | refine za4 ?_ | refine za3 ?_ | refine zae ?_ | refine zbo ?_ | refine za2 rfl ?_)
   refine zad ⟨.inr rfl, _, rfl, ?_⟩
   subst hi2
   rw [hall, List.drop_length]
   rfl
end Go.Proofs.Ytmnkjofaodbokaa
namespace Go.Proofs.Ytmnkjofaodbokaa
open Go Go.Am
mutual
def cnt (most : Int) : Ex → Int
 | .nd _ _ args => zn4 most 1 args
def zn4 (most n : Int) : List Ex → Int
 | [] => n
 | y :: ys => if n ≤ most then zn4 most (n + cnt (most - n) y) ys else n
end
mutual
theorem zjp (most : Int) (h : 0 ≤ most) : ∀ x : Ex, 1 ≤ cnt most x ∧ cnt most x ≤ most + 1
 | .nd op ix args => by
  rw [cnt]
  exact zrt most h 1 (by omega) (by omega) args
theorem zrt (most : Int) (h : 0 ≤ most) (n : Int) (h1 : 1 ≤ n) (h2 : n ≤ most + 1) : ∀ l : List Ex, 1 ≤ zn4 most n l ∧ zn4 most n l ≤ most + 1
 | [] => by rw [zn4]; exact ⟨h1, h2⟩
 | y :: ys => by
  rw [zn4]
  split
  ·have := zjp (most - n) (by omega) y
   exact zrt most h _ (by omega) (by omega) ys
  ·exact ⟨h1, h2⟩
end
def body67 : IC := .seq (.seq (.region [⟨(some 7), .mov (.t 6), none⟩,
  ⟨(some 8), .faddr 2 (.t 2), none⟩,
  ⟨(some 9), .load none (.t 8), none⟩,
  ⟨(some 10), .len false (.t 9), none⟩,
  ⟨(some 11), .bin .lss (.t 7) (.t 10), none⟩,
  ⟨(some 12), .mov (.t 11), none⟩,
  ⟨(some 13), .mov (.t 5), some (12, true)⟩,
  ⟨(some 14), .mov (.t 1), some (12, true)⟩,
  ⟨(some 15), .bin .leq (.t 13) (.t 14), some (12, true)⟩,
  ⟨(some 16), .pick (.t 12) (.t 15) (.c (.bool false)), none⟩] none)
 (.cond (.t 16) (.skip)
 (.exit 0)))
 (.seq (.block 1 (.region [⟨(some 19), .mov (.t 5), none⟩,
  ⟨(some 20), .faddr 2 (.t 2), none⟩,
  ⟨(some 21), .load none (.t 20), none⟩,
  ⟨(some 22), .mov (.t 6), none⟩,
  ⟨(some 23), .idxs 3 (.t 21) (.t 22), none⟩,
  ⟨(some 24), .load (some 3) (.t 23), none⟩,
  ⟨(some 25), .mov (.t 1), none⟩,
  ⟨(some 26), .mov (.t 5), none⟩,
  ⟨(some 27), .bin .sub (.t 25) (.t 26), none⟩,
  ⟨(some 28), .call (.c (.fn 67 [] [])) [(.t 24), (.t 27)], none⟩,
  ⟨(some 29), .bin .add (.t 19) (.t 28), none⟩,
  ⟨(some 5), .mov (.t 29), none⟩] none))
 (.region [⟨(some 17), .mov (.t 6), none⟩,
  ⟨(some 18), .bin .add (.t 17) (.c (.int .i64 1)), none⟩,
  ⟨(some 6), .mov (.t 18), none⟩] none))
-- pneumatic/pneumaticref05.count
def ic67 : IC := .seq (.region [⟨(some 2), .box (.t 0), none⟩,
  ⟨(some 4), .mov (.c (.int .i64 0)), none⟩] none)
 (.seq (.region [⟨(some 5), .mov (.c (.int .i64 1)), none⟩] none)
 (.seq (.seq (.region [⟨(some 6), .mov (.c (.int .i64 0)), none⟩] none)
 (.block 0 (.loop body67)))
 (.seq (.region [⟨(some 30), .mov (.t 5), none⟩,
  ⟨(some 4), .mov (.t 30), none⟩] none)
 (.ret))))
theorem fn67 : env0.fn 67 = some ⟨31, ic67, [.t 4]⟩ := by kernel_rfl
set_option maxHeartbeats 2000000 in
theorem zrx : ∀ (q : Nat) (x : Ex) (z : Int), SizeOf.sizeOf x ≤ q → Slim x → 0 ≤ z → z ≤ 1000 → PF Try.prog 67 [.agg (cX x), .int .i64 z] (.int .i64 (cnt z x)) := by
 intro q
 induction q with
 | zero => intro x z hq; cases x; simp at hq
 | succ q ih =>
  intro x z hq hs h0 hz
  obtain ⟨op, ix, args⟩ := x
  obtain ⟨hlen, hsl⟩ := zja hs
  refine zbl env0_ok fn67 [(0, .agg (cX (.nd op ix args))), (1, .int .i64 z)] (by show 2 ≤ 31; decide) rfl fun w0 N0 => ?_
  unfold ic67
  have hd : cnt z (.nd op ix args) = zn4 z 1 args := by rw [cnt]
  rw [hd]
  repeat (first | refine za7 ?_ | refine za0 rfl ?_ | refine za4 ?_ | refine za3 ?_ | refine zai ?_ | refine za2 rfl ?_ | refine zc5 rfl rfl ?_)
  refine zdr (fun mm S => ∃ i nn, mm = args.length - i ∧ i ≤ args.length ∧ 1 ≤ nn ∧ nn ≤ z + 1 ∧ zn4 z 1 args = zn4 z nn (args.drop i) ∧
    S = st 31 [(1, .int .i64 z), (2, .mptr 0 0 0), (5, .int .i64 nn), (6, .int .i64 (i : Nat))] [(0, 0, .cells (cX (.nd op ix args)))] 1 1) args.length
   (zal (.cons rfl (.cons rfl (.cons rfl (.cons rfl .nil))))) ⟨0, 1, rfl, Nat.zero_le _, by omega, by omega, rfl, rfl⟩ ?_
  rintro mm S ⟨i, nn, rfl, hi, hn1, hn2, hall, rfl⟩
  unfold body67
  repeat (first | refine za7 ?_ | refine za0 rfl ?_ | refine za2 rfl ?_ | refine zam rfl rfl ?_ | refine za8 rfl ?_ | refine zb7 rfl rfl ?_)
  refine zar rfl rfl rfl (fun h3 => ?_) fun h3 => ?_
  ·have hlt : i < args.length := by
    have := of_decide_eq_true h3
    rw [zb0] at this
    omega
   have hdr : args.drop i = args[i] :: args.drop (i + 1) := List.drop_eq_getElem_cons hlt
   rw [hdr] at hall
   have hge := zf7 hlt
   have hmem : args[i] ∈ args := List.getElem_mem hlt
   generalize args[i] = y at hall hge hmem
   obtain ⟨yo, yi, ya⟩ := y
   repeat (first | refine zbz rfl ?_ | refine za2 rfl ?_)
   refine zar rfl rfl rfl (fun h4 => ?_) fun h4 => ?_
   ·have h4 := of_decide_eq_true h4
    rw [zn4, if_pos h4] at hall
    repeat (first | refine za7 ?_ | refine za0 rfl ?_ | refine za4 ?_ | refine za3 ?_ | refine zai ?_ | refine zab ?_ | refine zbe rfl ?_ | refine za2 rfl ?_ | refine zam rfl rfl ?_ | refine za8 rfl ?_ | refine zag rfl rfl ?_)
    refine zbu rfl rfl (Int.natCast_nonneg i) hge rfl ?_
    repeat (first | refine za2 rfl ?_ | refine zap rfl rfl rfl rfl ?_ | refine zb8 (op := .sub) rfl rfl rfl ?_)
    rw [show IntKind.wrap .i64 (z - nn) = z - nn from wrap_small _ (by omega) (by omega)]
    refine zay rfl rfl (ih (.nd yo yi ya) (z - nn) (by have := zgm (op := op) (ix := ix) hmem; omega) (hsl _ hmem) (by omega) (by omega)) (fun h => Bool.noConfusion (show false = true from h)) ?_
    have hb := zjp (z - nn) (by omega) (.nd yo yi ya)
    repeat (first | refine za0 rfl ?_ | refine za4 ?_ | refine za3 ?_ | refine zc2 ?_ | refine za2 rfl ?_ | refine zb8 (op := .add) rfl rfl rfl ?_)
    rw [zbb i (by omega), show IntKind.wrap .i64 (nn + cnt (z - nn) (.nd yo yi ya)) = nn + cnt (z - nn) (.nd yo yi ya) from wrap_small _ (by omega) (by omega)]
    exact zcj (show args.length - (i + 1) < args.length - i by omega) (zal (.cons rfl (.cons rfl (.cons rfl (.cons rfl .nil))))) ⟨i + 1, _, rfl, hlt, by omega, by omega, hall, rfl⟩
   ·have h4 := of_decide_eq_false h4
    rw [zn4, if_neg h4] at hall
    repeat (first | refine za4 ?_ | refine za3 ?_ | refine zbi rfl ?_ | refine zbp ?_ | refine zah ?_ | refine zag rfl rfl ?_)
    refine zeh ?_
    repeat (first | refine za7 ?_ | refine za0 rfl ?_ | refine za4 ?_ | refine za3 ?_ | refine zae ?_ | refine zbo ?_ | refine za2 rfl ?_)
    refine zad ⟨.inr rfl, _, rfl, ?_⟩
    rw [hall]
    rfl
  ·have hi2 : i = args.length := by
    have := of_decide_eq_false h3
    rw [zb0] at this
    omega
   repeat (first | refine za4 ?_ | refine za3 ?_ | refine zbi rfl ?_ | refine zbp ?_ | refine zah ?_ | refine zcz rfl rfl ?_ | refine za2 rfl ?_ | refine zaa rfl rfl ?_)
   refine zeh ?_
   repeat (first | refine za7 ?_ | refine za0 rfl ?_ | refine za4 ?_ | refine za3 ?_ | refine zae ?_ | refine zbo ?_ | refine za2 rfl ?_)
   refine zad ⟨.inr rfl, _, rfl, ?_⟩
   subst hi2
   rw [hall, List.drop_length, zn4]
   rfl
end Go.Proofs.Ytmnkjofaodbokaa
namespace Go.Proofs.Ytmnkjofaodbokaa
open Go Go.Am
-- pneumatic/pneumaticref05.node
def ic95 : IC := .seq (.region [⟨(some 2), .box (.t 0), none⟩,
  ⟨(some 4), .mov (.c (.int .i64 0)), none⟩] none)
 (.seq (.seq (.region [⟨(some 7), .faddr 0 (.t 2), none⟩,
  ⟨(some 8), .load none (.t 7), none⟩,
  ⟨(some 9), .bin .lss (.t 8) (.c (.int .i64 0)), none⟩,
  ⟨(some 10), .mov (.t 9), none⟩,
  ⟨(some 11), .faddr 0 (.t 2), some (10, false)⟩,
  ⟨(some 12), .load none (.t 11), some (10, false)⟩,
  ⟨(some 13), .bin .geq (.t 12) (.c (.int .i64 5)), some (10, false)⟩,
  ⟨(some 14), .pick (.t 10) (.c (.bool true)) (.t 13), none⟩] none)
 (.cond (.t 14) (.seq (.region [⟨(some 4), .mov (.c (.int .i64 1)), none⟩] none)
 (.ret))
 (.skip)))
 (.seq (.region [⟨(some 15), .faddr 2 (.t 2), none⟩,
  ⟨(some 16), .load none (.t 15), none⟩,
  ⟨(some 17), .len false (.t 16), none⟩,
  ⟨(some 5), .mov (.t 17), none⟩] none)
 (.seq (.seq (.region [⟨(some 18), .faddr 0 (.t 2), none⟩,
  ⟨(some 19), .load none (.t 18), none⟩,
  ⟨(some 20), .bin .leq (.t 19) (.c (.int .i64 1)), none⟩,
  ⟨(some 21), .mov (.t 20), none⟩,
  ⟨(some 22), .mov (.t 5), some (21, true)⟩,
  ⟨(some 23), .bin .neq (.t 22) (.c (.int .i64 0)), some (21, true)⟩,
  ⟨(some 24), .pick (.t 21) (.t 23) (.c (.bool false)), none⟩,
  ⟨(some 25), .mov (.t 24), none⟩,
  ⟨(some 26), .faddr 0 (.t 2), some (25, false)⟩,
  ⟨(some 27), .load none (.t 26), some (25, false)⟩,
  ⟨(some 28), .bin .eql (.t 27) (.c (.int .i64 2)), some (25, false)⟩,
  ⟨(some 29), .mov (.t 28), some (25, false)⟩,
  ⟨(some 30), .mov (.t 5), some (29, true)⟩,
  ⟨(some 31), .bin .neq (.t 30) (.c (.int .i64 1)), some (29, true)⟩,
  ⟨(some 32), .pick (.t 29) (.t 31) (.c (.bool false)), some (25, false)⟩,
  ⟨(some 33), .pick (.t 25) (.c (.bool true)) (.t 32), none⟩,
  ⟨(some 34), .mov (.t 33), none⟩,
  ⟨(some 35), .faddr 0 (.t 2), some (34, false)⟩,
  ⟨(some 36), .load none (.t 35), some (34, false)⟩,
  ⟨(some 37), .bin .geq (.t 36) (.c (.int .i64 3)), some (34, false)⟩,
  ⟨(some 38), .mov (.t 37), some (34, false)⟩,
  ⟨(some 39), .mov (.t 5), some (38, true)⟩,
  ⟨(some 40), .bin .lss (.t 39) (.c (.int .i64 2)), some (38, true)⟩,
  ⟨(some 41), .pick (.t 38) (.t 40) (.c (.bool false)), some (34, false)⟩,
  ⟨(some 42), .pick (.t 34) (.c (.bool true)) (.t 41), none⟩] none)
 (.cond (.t 42) (.seq (.region [⟨(some 4), .mov (.c (.int .i64 3)), none⟩] none)
 (.ret))
 (.skip)))
 (.seq (.region [⟨(some 6), .mov (.c (.int .i64 1)), none⟩] none)
 (.seq (.seq (.region [⟨(some 43), .faddr 0 (.t 2), none⟩,
  ⟨(some 44), .load none (.t 43), none⟩,
  ⟨(some 45), .bin .eql (.t 44) (.c (.int .i64 0)), none⟩] none)
 (.cond (.t 45) (.region [⟨(some 6), .mov (.c (.int .i64 2)), none⟩] none)
 (.skip)))
 (.seq (.seq (.region [⟨(some 46), .faddr 0 (.t 2), none⟩,
  ⟨(some 47), .load none (.t 46), none⟩,
  ⟨(some 48), .bin .eql (.t 47) (.c (.int .i64 1)), none⟩] none)
 (.cond (.t 48) (.region [⟨(some 49), .mov (.t 1), none⟩,
  ⟨(some 6), .mov (.t 49), none⟩] none)
 (.skip)))
 (.seq (.seq (.region [⟨(some 50), .faddr 1 (.t 2), none⟩,
  ⟨(some 51), .load none (.t 50), none⟩,
  ⟨(some 52), .bin .lss (.t 51) (.c (.int .i64 0)), none⟩,
  ⟨(some 53), .mov (.t 52), none⟩,
  ⟨(some 54), .faddr 1 (.t 2), some (53, false)⟩,
  ⟨(some 55), .load none (.t 54), some (53, false)⟩,
  ⟨(some 56), .mov (.t 6), some (53, false)⟩,
  ⟨(some 57), .bin .geq (.t 55) (.t 56), some (53, false)⟩,
  ⟨(some 58), .pick (.t 53) (.c (.bool true)) (.t 57), none⟩] none)
 (.cond (.t 58) (.seq (.region [⟨(some 4), .mov (.c (.int .i64 2)), none⟩] none)
 (.ret))
 (.skip)))
 (.seq (.region [⟨(some 4), .mov (.c (.int .i64 0)), none⟩] none)
 (.ret)))))))))
theorem fn95 : env0.fn 95 = some ⟨59, ic95, [.t 4]⟩ := by kernel_rfl
set_option maxHeartbeats 4000000 in
theorem node104 (op ix n : Int) (args : List Ex) (hk : args.length ≤ 256) : PF Try.prog 95 [.agg (cX (.nd op ix args)), .int .i64 n] (.int .i64 (zbq op ix args.length n)) := by
 refine zbl env0_ok fn95 [(0, .agg (cX (.nd op ix args))), (1, .int .i64 n)] (by show 2 ≤ 59; decide) rfl fun w0 N0 => ?_
 unfold ic95
 repeat (first | refine za7 ?_ | refine za0 rfl ?_ | refine za4 ?_ | refine za3 ?_ | refine za2 rfl ?_ | refine zam rfl rfl ?_ | refine za8 rfl ?_ | refine zc5 rfl rfl ?_)
 refine zar rfl rfl rfl (fun h1 => ?_) fun h1 => ?_
 ·have h1 := of_decide_eq_true h1
  repeat (first | refine za7 ?_ | refine za0 rfl ?_ | refine za4 ?_ | refine za3 ?_ | refine zbe rfl ?_ | refine zae ?_ | refine za6 ?_ | refine zcz rfl rfl ?_ | refine za2 rfl ?_ | refine zag rfl rfl ?_)
  refine zad ⟨.inr rfl, _, rfl, ?_⟩
  unfold zbq
  rw [if_pos (.inl h1)]
  rfl
 have h1 := of_decide_eq_false h1
 repeat (first | refine zbz rfl ?_ | refine za2 rfl ?_ | refine zam rfl rfl ?_ | refine za8 rfl ?_)
 refine zar rfl rfl rfl (fun h2 => ?_) fun h2 => ?_
 ·have h2 := of_decide_eq_true h2
  repeat (first | refine za7 ?_ | refine za0 rfl ?_ | refine za4 ?_ | refine za3 ?_ | refine zbe rfl ?_ | refine zae ?_ | refine za6 ?_ | refine za2 rfl ?_ | refine zaa rfl rfl ?_)
  refine zad ⟨.inr rfl, _, rfl, ?_⟩
  unfold zbq
  rw [if_pos (.inr h2)]
  rfl
 have h2 := of_decide_eq_false h2
 have hlen : ((cXs args).length : Int) = (args.length : Int) := by rw [zb0]
 have hop : op = 0 ∨ op = 1 ∨ op = 2 ∨ op = 3 ∨ op = 4 := by omega
 rcases hop with rfl | rfl | rfl | rfl | rfl
 ·repeat (first | refine za7 ?_ | refine za0 rfl ?_ | refine za4 ?_ | refine za3 ?_ | refine zab ?_ | refine zbi rfl ?_ | refine zbz rfl ?_ | refine za2 rfl ?_ | refine zam rfl rfl ?_ | refine za8 rfl ?_ | refine zaa rfl rfl ?_ | refine zb7 rfl rfl ?_ | refine zbm rfl rfl rfl ?_)
  refine zar rfl rfl rfl (fun h3 => ?_) fun h3 => ?_
  ·have h3 := bne_iff_ne.1 h3
   repeat (first | refine za7 ?_ | refine za0 rfl ?_ | refine za4 ?_ | refine za3 ?_ | refine zbe rfl ?_ | refine zae ?_ | refine za6 ?_ | refine zcz rfl rfl ?_ | refine zhe rfl ?_ | refine za2 rfl ?_ | refine zag rfl rfl ?_)
   refine zad ⟨.inr rfl, _, rfl, ?_⟩
   show AV.int .i64 3 = AV.int .i64 _
   exact congrArg _ (by simp (decide := true) only [zbq, zb2, zc1, zbg, if_true, if_false]; (repeat' split) <;> omega)
  have h3a : ((cXs args).length : Int) = 0 := by simpa using h3
  clear h3
  repeat (first | refine za7 ?_ | refine za0 rfl ?_ | refine za4 ?_ | refine za3 ?_ | refine zab ?_ | refine zbe rfl ?_ | refine zbi rfl ?_ | refine zbz rfl ?_ | refine zcz rfl rfl ?_ | refine za2 rfl ?_ | refine zam rfl rfl ?_ | refine za8 rfl ?_ | refine zag rfl rfl ?_ | refine zaa rfl rfl ?_ | refine zbm rfl rfl rfl ?_ | refine zav rfl rfl rfl ?_)
  refine zar rfl rfl rfl (fun h4 => ?_) fun h4 => ?_
  ·have h4 := of_decide_eq_true h4
   repeat (first | refine za7 ?_ | refine za0 rfl ?_ | refine za4 ?_ | refine za3 ?_ | refine zbe rfl ?_ | refine zae ?_ | refine za6 ?_ | refine zcz rfl rfl ?_ | refine za2 rfl ?_ | refine zag rfl rfl ?_)
   refine zad ⟨.inr rfl, _, rfl, ?_⟩
   show AV.int .i64 2 = AV.int .i64 _
   exact congrArg _ (by simp (decide := true) only [zbq, zb2, zc1, zbg, if_true, if_false]; (repeat' split) <;> omega)
  have h4a := of_decide_eq_false h4
  clear h4
  repeat (first | refine zbz rfl ?_ | refine za2 rfl ?_ | refine zam rfl rfl ?_ | refine za8 rfl ?_)
  refine zar rfl rfl rfl (fun h4 => ?_) fun h4 => ?_
  ·have h4 := of_decide_eq_true h4
   repeat (first | refine za7 ?_ | refine za0 rfl ?_ | refine za4 ?_ | refine za3 ?_ | refine zbe rfl ?_ | refine zae ?_ | refine za6 ?_ | refine za2 rfl ?_ | refine zaa rfl rfl ?_)
   refine zad ⟨.inr rfl, _, rfl, ?_⟩
   show AV.int .i64 2 = AV.int .i64 _
   exact congrArg _ (by simp (decide := true) only [zbq, zb2, zc1, zbg, if_true, if_false]; (repeat' split) <;> omega)
  have h4b := of_decide_eq_false h4
  repeat (first | refine za7 ?_ | refine za0 rfl ?_ | refine za4 ?_ | refine za3 ?_ | refine zab ?_ | refine zbi rfl ?_ | refine zae ?_ | refine za2 rfl ?_ | refine zaa rfl rfl ?_)
  refine zad ⟨.inr rfl, _, rfl, ?_⟩
  show AV.int .i64 0 = AV.int .i64 _
  exact congrArg _ (by simp (decide := true) only [zbq, zb2, zc1, zbg, if_true, if_false]; (repeat' split) <;> omega)
 ·repeat (first | refine za7 ?_ | refine za0 rfl ?_ | refine za4 ?_ | refine za3 ?_ | refine zab ?_ | refine zbi rfl ?_ | refine zbz rfl ?_ | refine za2 rfl ?_ | refine zam rfl rfl ?_ | refine za8 rfl ?_ | refine zaa rfl rfl ?_ | refine zb7 rfl rfl ?_ | refine zbm rfl rfl rfl ?_)
  refine zar rfl rfl rfl (fun h3 => ?_) fun h3 => ?_
  ·have h3 := bne_iff_ne.1 h3
   repeat (first | refine za7 ?_ | refine za0 rfl ?_ | refine za4 ?_ | refine za3 ?_ | refine zbe rfl ?_ | refine zae ?_ | refine za6 ?_ | refine zcz rfl rfl ?_ | refine zhe rfl ?_ | refine za2 rfl ?_ | refine zag rfl rfl ?_)
   refine zad ⟨.inr rfl, _, rfl, ?_⟩
   show AV.int .i64 3 = AV.int .i64 _
   exact congrArg _ (by simp (decide := true) only [zbq, zb2, zc1, zbg, if_true, if_false]; (repeat' split) <;> omega)
  have h3a : ((cXs args).length : Int) = 0 := by simpa using h3
  clear h3
  repeat (first | refine za7 ?_ | refine za0 rfl ?_ | refine za4 ?_ | refine za3 ?_ | refine zab ?_ | refine zbe rfl ?_ | refine zbi rfl ?_ | refine zbz rfl ?_ | refine zcz rfl rfl ?_ | refine za2 rfl ?_ | refine zam rfl rfl ?_ | refine za8 rfl ?_ | refine zag rfl rfl ?_ | refine zaa rfl rfl ?_ | refine zbm rfl rfl rfl ?_ | refine zav rfl rfl rfl ?_)
  refine zar rfl rfl rfl (fun h4 => ?_) fun h4 => ?_
  ·have h4 := of_decide_eq_true h4
   repeat (first | refine za7 ?_ | refine za0 rfl ?_ | refine za4 ?_ | refine za3 ?_ | refine zbe rfl ?_ | refine zae ?_ | refine za6 ?_ | refine zcz rfl rfl ?_ | refine za2 rfl ?_ | refine zag rfl rfl ?_)
   refine zad ⟨.inr rfl, _, rfl, ?_⟩
   show AV.int .i64 2 = AV.int .i64 _
   exact congrArg _ (by simp (decide := true) only [zbq, zb2, zc1, zbg, if_true, if_false]; (repeat' split) <;> omega)
  have h4a := of_decide_eq_false h4
  clear h4
  repeat (first | refine zbz rfl ?_ | refine za2 rfl ?_ | refine zam rfl rfl ?_ | refine za8 rfl ?_)
  refine zar rfl rfl rfl (fun h4 => ?_) fun h4 => ?_
  ·have h4 := of_decide_eq_true h4
   repeat (first | refine za7 ?_ | refine za0 rfl ?_ | refine za4 ?_ | refine za3 ?_ | refine zbe rfl ?_ | refine zae ?_ | refine za6 ?_ | refine za2 rfl ?_ | refine zaa rfl rfl ?_)
   refine zad ⟨.inr rfl, _, rfl, ?_⟩
   show AV.int .i64 2 = AV.int .i64 _
   exact congrArg _ (by simp (decide := true) only [zbq, zb2, zc1, zbg, if_true, if_false]; (repeat' split) <;> omega)
  have h4b := of_decide_eq_false h4
  repeat (first | refine za7 ?_ | refine za0 rfl ?_ | refine za4 ?_ | refine za3 ?_ | refine zab ?_ | refine zbi rfl ?_ | refine zae ?_ | refine za2 rfl ?_ | refine zaa rfl rfl ?_)
  refine zad ⟨.inr rfl, _, rfl, ?_⟩
  show AV.int .i64 0 = AV.int .i64 _
  exact congrArg _ (by simp (decide := true) only [zbq, zb2, zc1, zbg, if_true, if_false]; (repeat' split) <;> omega)
 ·repeat (first | refine za7 ?_ | refine za0 rfl ?_ | refine za4 ?_ | refine za3 ?_ | refine zab ?_ | refine zbi rfl ?_ | refine zbz rfl ?_ | refine zcz rfl rfl ?_ | refine za2 rfl ?_ | refine zam rfl rfl ?_ | refine za8 rfl ?_ | refine zaa rfl rfl ?_ | refine zb7 rfl rfl ?_ | refine zbm rfl rfl rfl ?_ | refine zav rfl rfl rfl ?_)
  refine zar rfl rfl rfl (fun h3 => ?_) fun h3 => ?_
  ·have h3 := bne_iff_ne.1 h3
   repeat (first | refine za7 ?_ | refine za0 rfl ?_ | refine za4 ?_ | refine za3 ?_ | refine zbe rfl ?_ | refine zae ?_ | refine za6 ?_ | refine zbz rfl ?_ | refine zcz rfl rfl ?_ | refine zhe rfl ?_ | refine za2 rfl ?_ | refine zag rfl rfl ?_ | refine zaa rfl rfl ?_)
   refine zad ⟨.inr rfl, _, rfl, ?_⟩
   show AV.int .i64 3 = AV.int .i64 _
   exact congrArg _ (by simp (decide := true) only [zbq, zb2, zc1, zbg, if_true, if_false]; (repeat' split) <;> omega)
  have h3a : ((cXs args).length : Int) = 1 := by simpa using h3
  clear h3
  repeat (first | refine za7 ?_ | refine za0 rfl ?_ | refine za4 ?_ | refine za3 ?_ | refine zab ?_ | refine zbi rfl ?_ | refine zbz rfl ?_ | refine zcz rfl rfl ?_ | refine za2 rfl ?_ | refine zam rfl rfl ?_ | refine za8 rfl ?_ | refine zag rfl rfl ?_ | refine zaa rfl rfl ?_ | refine zav rfl rfl rfl ?_)
  refine zar rfl rfl rfl (fun h4 => ?_) fun h4 => ?_
  ·have h4 := of_decide_eq_true h4
   repeat (first | refine za7 ?_ | refine za0 rfl ?_ | refine za4 ?_ | refine za3 ?_ | refine zbe rfl ?_ | refine zae ?_ | refine za6 ?_ | refine zcz rfl rfl ?_ | refine za2 rfl ?_ | refine zag rfl rfl ?_)
   refine zad ⟨.inr rfl, _, rfl, ?_⟩
   show AV.int .i64 2 = AV.int .i64 _
   exact congrArg _ (by simp (decide := true) only [zbq, zb2, zc1, zbg, if_true, if_false]; (repeat' split) <;> omega)
  have h4a := of_decide_eq_false h4
  clear h4
  repeat (first | refine zbz rfl ?_ | refine za2 rfl ?_ | refine zam rfl rfl ?_ | refine za8 rfl ?_)
  refine zar rfl rfl rfl (fun h4 => ?_) fun h4 => ?_
  ·have h4 := of_decide_eq_true h4
   repeat (first | refine za7 ?_ | refine za0 rfl ?_ | refine za4 ?_ | refine za3 ?_ | refine zbe rfl ?_ | refine zae ?_ | refine za6 ?_ | refine za2 rfl ?_ | refine zaa rfl rfl ?_)
   refine zad ⟨.inr rfl, _, rfl, ?_⟩
   show AV.int .i64 2 = AV.int .i64 _
   exact congrArg _ (by simp (decide := true) only [zbq, zb2, zc1, zbg, if_true, if_false]; (repeat' split) <;> omega)
  have h4b := of_decide_eq_false h4
  repeat (first | refine za7 ?_ | refine za0 rfl ?_ | refine za4 ?_ | refine za3 ?_ | refine zab ?_ | refine zbi rfl ?_ | refine zae ?_ | refine za2 rfl ?_ | refine zaa rfl rfl ?_)
  refine zad ⟨.inr rfl, _, rfl, ?_⟩
  show AV.int .i64 0 = AV.int .i64 _
  exact congrArg _ (by simp (decide := true) only [zbq, zb2, zc1, zbg, if_true, if_false]; (repeat' split) <;> omega)
 ·repeat (first | refine za7 ?_ | refine za0 rfl ?_ | refine za4 ?_ | refine za3 ?_ | refine zab ?_ | refine zbi rfl ?_ | refine zbz rfl ?_ | refine zcz rfl rfl ?_ | refine za2 rfl ?_ | refine zam rfl rfl ?_ | refine za8 rfl ?_ | refine zaa rfl rfl ?_ | refine zb7 rfl rfl ?_ | refine zbm rfl rfl rfl ?_ | refine zav rfl rfl rfl ?_)
  refine zar rfl rfl rfl (fun h3 => ?_) fun h3 => ?_
  ·have h3 := of_decide_eq_true h3
   repeat (first | refine za7 ?_ | refine za0 rfl ?_ | refine za4 ?_ | refine za3 ?_ | refine zbe rfl ?_ | refine zae ?_ | refine za6 ?_ | refine zbz rfl ?_ | refine za2 rfl ?_ | refine zag rfl rfl ?_ | refine zaa rfl rfl ?_)
   refine zad ⟨.inr rfl, _, rfl, ?_⟩
   show AV.int .i64 3 = AV.int .i64 _
   exact congrArg _ (by simp (decide := true) only [zbq, zb2, zc1, zbg, if_true, if_false]; (repeat' split) <;> omega)
  have h3a := of_decide_eq_false h3
  clear h3
  repeat (first | refine za7 ?_ | refine za0 rfl ?_ | refine za4 ?_ | refine za3 ?_ | refine zab ?_ | refine zbi rfl ?_ | refine zbz rfl ?_ | refine za2 rfl ?_ | refine zam rfl rfl ?_ | refine za8 rfl ?_ | refine zag rfl rfl ?_ | refine zaa rfl rfl ?_ | refine zav rfl rfl rfl ?_)
  refine zar rfl rfl rfl (fun h4 => ?_) fun h4 => ?_
  ·have h4 := of_decide_eq_true h4
   repeat (first | refine za7 ?_ | refine za0 rfl ?_ | refine za4 ?_ | refine za3 ?_ | refine zbe rfl ?_ | refine zae ?_ | refine za6 ?_ | refine zcz rfl rfl ?_ | refine za2 rfl ?_ | refine zag rfl rfl ?_)
   refine zad ⟨.inr rfl, _, rfl, ?_⟩
   show AV.int .i64 2 = AV.int .i64 _
   exact congrArg _ (by simp (decide := true) only [zbq, zb2, zc1, zbg, if_true, if_false]; (repeat' split) <;> omega)
  have h4a := of_decide_eq_false h4
  clear h4
  repeat (first | refine zbz rfl ?_ | refine za2 rfl ?_ | refine zam rfl rfl ?_ | refine za8 rfl ?_)
  refine zar rfl rfl rfl (fun h4 => ?_) fun h4 => ?_
  ·have h4 := of_decide_eq_true h4
   repeat (first | refine za7 ?_ | refine za0 rfl ?_ | refine za4 ?_ | refine za3 ?_ | refine zbe rfl ?_ | refine zae ?_ | refine za6 ?_ | refine za2 rfl ?_ | refine zaa rfl rfl ?_)
   refine zad ⟨.inr rfl, _, rfl, ?_⟩
   show AV.int .i64 2 = AV.int .i64 _
   exact congrArg _ (by simp (decide := true) only [zbq, zb2, zc1, zbg, if_true, if_false]; (repeat' split) <;> omega)
  have h4b := of_decide_eq_false h4
  repeat (first | refine za7 ?_ | refine za0 rfl ?_ | refine za4 ?_ | refine za3 ?_ | refine zab ?_ | refine zbi rfl ?_ | refine zae ?_ | refine za2 rfl ?_ | refine zaa rfl rfl ?_)
  refine zad ⟨.inr rfl, _, rfl, ?_⟩
  show AV.int .i64 0 = AV.int .i64 _
  exact congrArg _ (by simp (decide := true) only [zbq, zb2, zc1, zbg, if_true, if_false]; (repeat' split) <;> omega)
 ·repeat (first | refine za7 ?_ | refine za0 rfl ?_ | refine za4 ?_ | refine za3 ?_ | refine zab ?_ | refine zbi rfl ?_ | refine zbz rfl ?_ | refine zcz rfl rfl ?_ | refine za2 rfl ?_ | refine zam rfl rfl ?_ | refine za8 rfl ?_ | refine zaa rfl rfl ?_ | refine zb7 rfl rfl ?_ | refine zbm rfl rfl rfl ?_ | refine zav rfl rfl rfl ?_)
  refine zar rfl rfl rfl (fun h3 => ?_) fun h3 => ?_
  ·have h3 := of_decide_eq_true h3
   repeat (first | refine za7 ?_ | refine za0 rfl ?_ | refine za4 ?_ | refine za3 ?_ | refine zbe rfl ?_ | refine zae ?_ | refine za6 ?_ | refine zbz rfl ?_ | refine za2 rfl ?_ | refine zag rfl rfl ?_ | refine zaa rfl rfl ?_)
   refine zad ⟨.inr rfl, _, rfl, ?_⟩
   show AV.int .i64 3 = AV.int .i64 _
   exact congrArg _ (by simp (decide := true) only [zbq, zb2, zc1, zbg, if_true, if_false]; (repeat' split) <;> omega)
  have h3a := of_decide_eq_false h3
  clear h3
  repeat (first | refine za7 ?_ | refine za0 rfl ?_ | refine za4 ?_ | refine za3 ?_ | refine zab ?_ | refine zbi rfl ?_ | refine zbz rfl ?_ | refine za2 rfl ?_ | refine zam rfl rfl ?_ | refine za8 rfl ?_ | refine zag rfl rfl ?_ | refine zaa rfl rfl ?_ | refine zav rfl rfl rfl ?_)
  refine zar rfl rfl rfl (fun h4 => ?_) fun h4 => ?_
  ·have h4 := of_decide_eq_true h4
   repeat (first | refine za7 ?_ | refine za0 rfl ?_ | refine za4 ?_ | refine za3 ?_ | refine zbe rfl ?_ | refine zae ?_ | refine za6 ?_ | refine zcz rfl rfl ?_ | refine za2 rfl ?_ | refine zag rfl rfl ?_)
   refine zad ⟨.inr rfl, _, rfl, ?_⟩
   show AV.int .i64 2 = AV.int .i64 _
   exact congrArg _ (by simp (decide := true) only [zbq, zb2, zc1, zbg, if_true, if_false]; (repeat' split) <;> omega)
  have h4a := of_decide_eq_false h4
  clear h4
  repeat (first | refine zbz rfl ?_ | refine za2 rfl ?_ | refine zam rfl rfl ?_ | refine za8 rfl ?_)
  refine zar rfl rfl rfl (fun h4 => ?_) fun h4 => ?_
  ·have h4 := of_decide_eq_true h4
   repeat (first | refine za7 ?_ | refine za0 rfl ?_ | refine za4 ?_ | refine za3 ?_ | refine zbe rfl ?_ | refine zae ?_ | refine za6 ?_ | refine za2 rfl ?_ | refine zaa rfl rfl ?_)
   refine zad ⟨.inr rfl, _, rfl, ?_⟩
   show AV.int .i64 2 = AV.int .i64 _
   exact congrArg _ (by simp (decide := true) only [zbq, zb2, zc1, zbg, if_true, if_false]; (repeat' split) <;> omega)
  have h4b := of_decide_eq_false h4
  repeat (first | refine za7 ?_ | refine za0 rfl ?_ | refine za4 ?_ | refine za3 ?_ | refine zab ?_ | refine zbi rfl ?_ | refine zae ?_ | refine za2 rfl ?_ | refine zaa rfl rfl ?_)
  refine zad ⟨.inr rfl, _, rfl, ?_⟩
  show AV.int .i64 0 = AV.int .i64 _
  exact congrArg _ (by simp (decide := true) only [zbq, zb2, zc1, zbg, if_true, if_false]; (repeat' split) <;> omega)
inductive Thin : Ex → Prop
 | nd {op ix : Int} {args : List Ex} (h : args.length ≤ 256) (k : ∀ y ∈ args, Thin y) : Thin (.nd op ix args)
theorem zu6 {op ix : Int} {args : List Ex} (h : Thin (.nd op ix args)) : args.length ≤ 256 ∧ ∀ y ∈ args, Thin y := by
 cases h with | nd h k => exact ⟨h, k⟩
mutual
def nds (n : Int) : Ex → Int
 | .nd op ix args => if zbq op ix args.length n = 0 then zqt n args else zbq op ix args.length n
def zqt (n : Int) : List Ex → Int
 | [] => 0
 | y :: ys => if nds n y = 0 then zqt n ys else nds n y
end
def body71 : IC := .seq (.seq (.region [⟨(some 14), .mov (.t 6), none⟩,
  ⟨(some 15), .faddr 2 (.t 2), none⟩,
  ⟨(some 16), .load none (.t 15), none⟩,
  ⟨(some 17), .len false (.t 16), none⟩,
  ⟨(some 18), .bin .lss (.t 14) (.t 17), none⟩] none)
 (.cond (.t 18) (.skip)
 (.exit 0)))
 (.seq (.block 1 (.seq (.region [⟨(some 21), .faddr 2 (.t 2), none⟩,
  ⟨(some 22), .load none (.t 21), none⟩,
  ⟨(some 23), .mov (.t 6), none⟩,
  ⟨(some 24), .idxs 3 (.t 22) (.t 23), none⟩,
  ⟨(some 25), .load (some 3) (.t 24), none⟩,
  ⟨(some 26), .mov (.t 1), none⟩,
  ⟨(some 27), .call (.c (.fn 71 [] [])) [(.t 25), (.t 26)], none⟩,
  ⟨(some 7), .mov (.t 27), none⟩] none)
 (.seq (.region [⟨(some 28), .mov (.t 7), none⟩,
  ⟨(some 29), .bin .neq (.t 28) (.c (.int .i64 0)), none⟩] none)
 (.cond (.t 29) (.seq (.region [⟨(some 30), .mov (.t 7), none⟩,
  ⟨(some 4), .mov (.t 30), none⟩] none)
 (.ret))
 (.skip)))))
 (.region [⟨(some 19), .mov (.t 6), none⟩,
  ⟨(some 20), .bin .add (.t 19) (.c (.int .i64 1)), none⟩,
  ⟨(some 6), .mov (.t 20), none⟩] none))
-- pneumatic/pneumaticref05.nodes
def ic71 : IC := .seq (.region [⟨(some 2), .box (.t 0), none⟩,
  ⟨(some 4), .mov (.c (.int .i64 0)), none⟩] none)
 (.seq (.seq (.region [⟨(some 8), .load (some 3) (.t 2), none⟩,
  ⟨(some 9), .mov (.t 1), none⟩,
  ⟨(some 10), .call (.c (.fn 95 [] [])) [(.t 8), (.t 9)], none⟩,
  ⟨(some 5), .mov (.t 10), none⟩] none)
 (.seq (.region [⟨(some 11), .mov (.t 5), none⟩,
  ⟨(some 12), .bin .neq (.t 11) (.c (.int .i64 0)), none⟩] none)
 (.cond (.t 12) (.seq (.region [⟨(some 13), .mov (.t 5), none⟩,
  ⟨(some 4), .mov (.t 13), none⟩] none)
 (.ret))
 (.skip))))
 (.seq (.seq (.region [⟨(some 6), .mov (.c (.int .i64 0)), none⟩] none)
 (.block 0 (.loop body71)))
 (.seq (.region [⟨(some 4), .mov (.c (.int .i64 0)), none⟩] none)
 (.ret))))
theorem fn71 : env0.fn 71 = some ⟨31, ic71, [.t 4]⟩ := by kernel_rfl
set_option maxHeartbeats 2000000 in
theorem nodes89 (z : Int) : ∀ (q : Nat) (x : Ex), SizeOf.sizeOf x ≤ q → Thin x → PF Try.prog 71 [.agg (cX x), .int .i64 z] (.int .i64 (nds z x)) := by
 intro q
 induction q with
 | zero => intro x hq; cases x; simp at hq
 | succ q ih =>
  intro x hq hs
  obtain ⟨op, ix, args⟩ := x
  obtain ⟨hlen, hsl⟩ := zu6 hs
  refine zbl env0_ok fn71 [(0, .agg (cX (.nd op ix args))), (1, .int .i64 z)] (by show 2 ≤ 31; decide) rfl fun w0 N0 => ?_
  unfold ic71
  have hd : nds z (.nd op ix args) = if zbq op ix args.length z = 0 then zqt z args else zbq op ix args.length z := by rw [nds]
  rw [hd]
  repeat (first | refine za7 ?_ | refine za0 rfl ?_ | refine za4 ?_ | refine za3 ?_ | refine za2 rfl ?_ | refine zap rfl rfl rfl rfl ?_ | refine zc5 rfl rfl ?_)
  refine zay rfl rfl (node104 op ix z args hlen) (fun h => Bool.noConfusion (show false = true from h)) ?_
  repeat (first | refine za7 ?_ | refine za0 rfl ?_ | refine za4 ?_ | refine za3 ?_ | refine za2 rfl ?_)
  refine zar rfl rfl rfl (fun h3 => ?_) fun h3 => ?_
  ·have h3 := bne_iff_ne.1 h3
   rw [if_neg h3]
   repeat (first | refine za7 ?_ | refine za0 rfl ?_ | refine za4 ?_ | refine za3 ?_ | refine zbe rfl ?_ | refine zae ?_ | refine za6 ?_ | refine za2 rfl ?_)
   exact zad ⟨.inr rfl, _, rfl, rfl⟩
  have h3 : zbq op ix args.length z = 0 := by simpa using h3
  rw [if_pos h3]
  repeat (first | refine za7 ?_ | refine za0 rfl ?_ | refine za4 ?_ | refine za3 ?_ | refine zai ?_ | refine zab ?_ | refine zbi rfl ?_ | refine za2 rfl ?_)
  refine zdr (fun mm S => ∃ i, mm = args.length - i ∧ i ≤ args.length ∧ zqt z args = zqt z (args.drop i) ∧
    S = st 31 [(1, .int .i64 z), (2, .mptr 0 0 0), (6, .int .i64 (i : Nat))] [(0, 0, .cells (cX (.nd op ix args)))] 1 1) args.length
   (zal (.cons rfl (.cons rfl (.cons rfl .nil)))) ⟨0, rfl, Nat.zero_le _, rfl, rfl⟩ ?_
  rintro mm S ⟨i, rfl, hi, hall, rfl⟩
  unfold body71
  repeat (first | refine za7 ?_ | refine za0 rfl ?_ | refine za2 rfl ?_ | refine zam rfl rfl ?_ | refine za8 rfl ?_ | refine zb7 rfl rfl ?_)
  refine zar rfl rfl rfl (fun h3 => ?_) fun h3 => ?_
  ·have hlt : i < args.length := by
    have := of_decide_eq_true h3
    rw [zb0] at this
    omega
   have hdr : args.drop i = args[i] :: args.drop (i + 1) := List.drop_eq_getElem_cons hlt
   rw [hdr] at hall
   have hge := zf7 hlt
   have hmem : args[i] ∈ args := List.getElem_mem hlt
   generalize args[i] = y at hall hge hmem
   obtain ⟨yo, yi, ya⟩ := y
   rw [zqt] at hall
   repeat (first | refine za7 ?_ | refine za0 rfl ?_ | refine za4 ?_ | refine za3 ?_ | refine zai ?_ | refine zab ?_ | refine zbe rfl ?_ | refine za2 rfl ?_ | refine zam rfl rfl ?_ | refine za8 rfl ?_)
   refine zbu rfl rfl (Int.natCast_nonneg i) hge rfl ?_
   repeat (first | refine za2 rfl ?_ | refine zap rfl rfl rfl rfl ?_)
   refine zay rfl rfl (ih (.nd yo yi ya) (by have := zgm (op := op) (ix := ix) hmem; omega) (hsl _ hmem)) (fun h => Bool.noConfusion (show false = true from h)) ?_
   repeat (first | refine za7 ?_ | refine za0 rfl ?_ | refine za4 ?_ | refine za3 ?_ | refine za2 rfl ?_)
   refine zar rfl rfl rfl (fun h4 => ?_) fun h4 => ?_
   ·have h4 := bne_iff_ne.1 h4
    rw [if_neg h4] at hall
    repeat (first | refine za7 ?_ | refine za0 rfl ?_ | refine za4 ?_ | refine za3 ?_ | refine zbe rfl ?_ | refine zae ?_ | refine za6 ?_ | refine zaf ?_ | refine za2 rfl ?_)
    refine zjc ?_
    repeat (first | refine za6 ?_ | refine zaf ?_)
    refine zad ⟨.inr rfl, _, rfl, ?_⟩
    rw [hall]
    rfl
   ·have h4 : nds z (.nd yo yi ya) = 0 := by simpa using h4
    rw [if_pos h4] at hall
    repeat (first | refine za0 rfl ?_ | refine za4 ?_ | refine za3 ?_ | refine zc2 ?_ | refine zab ?_ | refine zbi rfl ?_ | refine za2 rfl ?_ | refine zb8 (op := .add) rfl rfl rfl ?_)
    rw [zbb i (by omega)]
    exact zcj (show args.length - (i + 1) < args.length - i by omega) (zal (.cons rfl (.cons rfl (.cons rfl .nil)))) ⟨i + 1, rfl, hlt, hall, rfl⟩
  ·have hi2 : i = args.length := by
    have := of_decide_eq_false h3
    rw [zb0] at this
    omega
   repeat (first | refine za4 ?_ | refine za3 ?_ | refine zbi rfl ?_ | refine zbp ?_ | refine zah ?_)
   refine zeh ?_
   repeat (first | refine za7 ?_ | refine za0 rfl ?_ | refine za4 ?_ | refine za3 ?_ | refine zae ?_ | refine zbo ?_ | refine za2 rfl ?_)
   refine zad ⟨.inr rfl, _, rfl, ?_⟩
   subst hi2
   rw [hall, List.drop_length, zqt]
   rfl
end Go.Proofs.Ytmnkjofaodbokaa
