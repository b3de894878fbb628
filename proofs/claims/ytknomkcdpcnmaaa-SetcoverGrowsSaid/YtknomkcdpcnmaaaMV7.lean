/-
  ALL CHOICES: setcover.choices.
-/
import Derived.Test.YtknomkcdpcnmaaaMV6
namespace Go.Proofs.Ytknomkcdpcnmaaa
open Go Go.Am
-- pneumatic/setcover.choices
def ic56 : IC := .seq (.region [⟨(some 2), .box (.t 0), none⟩,
  ⟨(some 3), .box (.t 1), none⟩,
  ⟨(some 4), .mov (.c (.nilf)), none⟩] none)
 (.seq (.region [⟨(some 5), .mkfn 67 [] [(.t 3), (.t 2)], none⟩,
  ⟨(some 4), .mov (.t 5), none⟩] none)
 (.ret))
theorem fn56 : env0.fn 56 = some ⟨6, ic56, [.t 4]⟩ := by kernel_rfl
-- pneumatic/setcover.choices$1
def ic67 : IC := .seq (.region [⟨(some 3), .box (.t 0), none⟩] none)
 (.seq (.region [⟨(some 4), .alloc [.nilf], none⟩] none)
 (.seq (.region [⟨(some 5), .mkfn 68 [] [(.t 1), (.t 3), (.t 2), (.t 4)], none⟩,
  ⟨none, .store 1 (.t 4) (.t 5), none⟩] none)
 (.region [⟨(some 6), .load none (.t 4), none⟩,
  ⟨(some 7), .call (.t 6) [(.c (.nils)), (.c (.int .i64 0))], none⟩] none)))
theorem fn67 : env0.fn 67 = some ⟨8, ic67, []⟩ := by kernel_rfl
def b68_0 : IC := .seq (.seq (.region [⟨(some 19), .mov (.t 9), none⟩,
  ⟨(some 20), .load none (.t 4), none⟩,
  ⟨(some 21), .load none (.t 2), none⟩,
  ⟨(some 22), .mov (.t 0), none⟩,
  ⟨(some 23), .len false (.t 22), none⟩,
  ⟨(some 24), .bin .sub (.t 21) (.t 23), none⟩,
  ⟨(some 25), .bin .sub (.t 20) (.t 24), none⟩,
  ⟨(some 26), .bin .leq (.t 19) (.t 25), none⟩] none)
 (.cond (.t 26) (.skip)
 (.exit 0)))
 (.seq (.block 1 (.seq (.region [⟨(some 29), .load none (.t 5), none⟩,
  ⟨(some 30), .mov (.t 0), none⟩,
  ⟨(some 31), .mov (.t 9), none⟩,
  ⟨(some 32), .bslice 1 1 [.int .i64 0] [(0, 1, (.t 31))], none⟩,
  ⟨(some 33), .append 1 8 [.int .i64 0] (.t 30) (.t 32), none⟩,
  ⟨(some 34), .mov (.t 9), none⟩,
  ⟨(some 35), .bin .add (.t 34) (.c (.int .i64 1)), none⟩,
  ⟨(some 36), .call (.t 29) [(.t 33), (.t 35)], none⟩,
  ⟨(some 37), .un .not (.t 36), none⟩] (some [[], [], [], [2], [1, 3], [], [5], [0, 4, 6, 4], [7]]))
 (.cond (.t 37) (.seq (.region [⟨(some 8), .mov (.c (.bool false)), none⟩] none)
 (.ret))
 (.skip))))
 (.region [⟨(some 27), .mov (.t 9), none⟩,
  ⟨(some 28), .bin .add (.t 27) (.c (.int .i64 1)), none⟩,
  ⟨(some 9), .mov (.t 28), none⟩] none))
-- pneumatic/setcover.choices$1$1
def ic68 : IC := .seq (.region [⟨(some 8), .mov (.c (.bool false)), none⟩] none)
 (.seq (.seq (.region [⟨(some 10), .mov (.t 0), none⟩,
  ⟨(some 11), .len false (.t 10), none⟩,
  ⟨(some 12), .load none (.t 2), none⟩,
  ⟨(some 13), .bin .eql (.t 11) (.t 12), none⟩] none)
 (.cond (.t 13) (.seq (.region [⟨(some 14), .load none (.t 3), none⟩,
  ⟨(some 15), .mov (.t 0), none⟩,
  ⟨(some 16), .call (.c (.fn 45 [] [])) [(.t 15)], none⟩,
  ⟨(some 17), .call (.t 14) [(.t 16)], none⟩,
  ⟨(some 8), .mov (.t 17), none⟩] (some [[], [], [1], [0, 2, 2], [3, 3, 0, 1, 2, 3]]))
 (.ret))
 (.skip)))
 (.seq (.seq (.region [⟨(some 18), .mov (.t 1), none⟩,
  ⟨(some 9), .mov (.t 18), none⟩] none)
 (.block 0 (.loop b68_0)))
 (.seq (.region [⟨(some 8), .mov (.c (.bool true)), none⟩] none)
 (.ret))))
theorem fn68 : env0.fn 68 = some ⟨38, ic68, [.t 8]⟩ := by kernel_rfl
theorem zsr (n k : Int) : PF Try.prog 56 [.int .i64 n, .int .i64 k] (.fn 67 [] [.vptr [.int .i64 k], .vptr [.int .i64 n]]) := by
 refine zb9 env0_ok fn56 [(0, .int .i64 n), (1, .int .i64 k)] (by show 2 ≤ 6; decide) rfl fun w0 N0 => ?_
 unfold ic56
 repeat (first | refine za5 ?_ | refine za0 rfl ?_ | refine za3 ?_ | refine za4 ?_ | refine zbg ?_ | refine zaf ?_ | refine zac ?_ | refine zbv rfl ?_ | refine zbk rfl ?_ | refine zbc ?_ | refine zao ?_ | refine zbb ?_ | refine zad ?_ | refine zb2 rfl ?_ | refine za8 ?_ | refine za9 ?_ | refine zcr rfl ?_ | refine zg5 rfl rfl ?_ | refine zoa rfl ?_ | refine za1 rfl ?_ | refine zah rfl rfl ?_ | refine zay rfl rfl rfl rfl ?_ | refine zbf rfl rfl rfl rfl rfl rfl rfl ?_ | refine zcf rfl ?_ | refine zab rfl rfl rfl ?_ | refine zar rfl rfl rfl ?_ | refine zbs rfl rfl rfl rfl ?_ | refine zbx ?_ | refine zam rfl rfl ?_ | refine zal rfl rfl ?_ | refine zlm rfl rfl ?_ | refine zb8 rfl rfl ?_ | refine zd1 rfl rfl ?_ | refine zbd rfl rfl ?_ | refine zcw rfl rfl ?_ | refine zbt rfl rfl rfl ?_ | refine zd2 rfl rfl ?_ | refine zce rfl rfl rfl rfl ?_ | refine zbr rfl rfl rfl rfl ?_ | refine zch rfl rfl rfl rfl ?_ | refine zdr rfl rfl ?_ | refine zde rfl rfl ?_ | refine zb4 rfl rfl ?_ | refine zed ?_ | refine zc1 env0_ok rfl rfl rfl ?_ | refine zae (op := .add) rfl rfl rfl ?_ | refine zae (op := .sub) rfl rfl rfl ?_ | refine zds rfl rfl rfl ?_ | refine zec rfl rfl rfl ?_ | refine zbw rfl rfl rfl ?_ | refine zb7 rfl rfl rfl ?_ | refine zbe rfl rfl (by omega) (by assumption) rfl ?_ | refine zar rfl rfl (decide_eq_true ⟨by omega, by omega⟩) ?_ | refine zbm rfl rfl (by omega) (by omega) ?_ | refine zcg rfl rfl rfl ?_ | refine zef rfl ?_ | refine zee rfl ?_)
 exact zaj ⟨.inr rfl, _, rfl, rfl⟩
structure CW (K N : Int) (id sp yb sy wb sw : Nat) (H : HS) : Prop where
 hy : Am.look yb H.heap = some (sy, .cells [.yield id sp])
 hw : Am.look wb H.heap = some (sw, .cells [.fn 68 [] [.vptr [.int .i64 K], .mptr yb sy 0, .vptr [.int .i64 N], .mptr wb sw 0]])
 ly : yb < H.next
 lw : wb < H.next
theorem CW.keep {M : Nat → Prop} {K N : Int} {id sp yb sy wb sw : Nat} {H H' : HS} (h : CW K N id sp yb sy wb sw H) (k : Keep M H H') (n1 : ¬ M yb) (n2 : ¬ M wb) : CW K N id sp yb sy wb sw H' :=
 ⟨(k.look yb n1 h.ly).trans h.hy, (k.look wb n2 h.lw).trans h.hw, Nat.lt_of_lt_of_le h.ly k.next, Nat.lt_of_lt_of_le h.lw k.next⟩
section
variable {σ τ : Type} {step : σ → List Int → σ ⊕ τ} {M : Nat → Prop} {I : σ → HS → Prop} {J : τ → HS → Prop}
def LeftW (M : Nat → Prop) (I : σ → HS → Prop) (J : τ → HS → Prop) (lb sl : Nat) (vs : List Int) (m : Nat) (H : HS) (o : σ ⊕ τ) (v : AV) (H' : HS) : Prop :=
 Left (fun i => M i ∨ i = lb) I J H o v H' ∧ ∃ X, X.length = m ∧ Am.look lb H'.heap = some (sl, .cells (zd9 vs X))
def Walk (step : σ → List Int → σ ⊕ τ) (M : Nat → Prop) (I : σ → HS → Prop) (J : τ → HS → Prop) (Pr : σ → List Int → Prop) (w0 : World) (N0 K N id sp yb sy wb sw r : Nat) : Prop :=
 ∀ (vs : List Int) (first c : Nat) (X : List AV) (lb sl : Nat) (H : HS) (s : σ), vs.length + r = K → first ≤ N → vs.length + X.length = c → CW K N id sp yb sy wb sw H → Am.look lb H.heap = some (sl, .cells (zd9 vs X)) → lb < H.next → ¬ M lb → lb ≠ yb → lb ≠ wb → I s H → zhh step Pr (beh vs (asc N r first)) s →
  Zm Try.prog w0 N0 (some none) ic68 (st 38 [(0, .ms lb sl 1 0 vs.length (some c)), (1, .int .i64 (first : Nat)), (2, .vptr [.int .i64 (K : Nat)]), (3, .mptr yb sy 0), (4, .vptr [.int .i64 (N : Nat)]), (5, .mptr wb sw 0)] H.heap H.next H.clk) []
   fun e S' => (e = .normal ∨ e = .ret) ∧ ∃ v, S'.leave.res [.t 8] = some v ∧ LeftW M I J lb sl vs X.length H (ze9 step (beh vs (asc N r first)) s) v S'.leave.hs
theorem zvl {Pr : σ → List Int → Prop} {w0 : World} {N0 K N id sp yb sy wb sw r : Nat} (h : Walk step M I J Pr w0 N0 K N id sp yb sy wb sw r) (vs : List Int) (first c : Nat) (X : List AV) (lb sl : Nat) (H : HS) (s : σ) (h1 : vs.length + r = K) (h2 : first ≤ N) (h3 : vs.length + X.length = c) (h4 : CW K N id sp yb sy wb sw H) (h5 : Am.look lb H.heap = some (sl, .cells (zd9 vs X))) (h6 : lb < H.next) (h7 : ¬ M lb) (h8 : lb ≠ yb) (h9 : lb ≠ wb) (h10 : I s H) (h11 : zhh step Pr (beh vs (asc N r first)) s) :
  FT Try.prog w0 N0 68 [.ms lb sl 1 0 vs.length (some c), .int .i64 (first : Nat), .vptr [.int .i64 (K : Nat)], .mptr yb sy 0, .vptr [.int .i64 (N : Nat)], .mptr wb sw 0] H (LeftW M I J lb sl vs X.length H (ze9 step (beh vs (asc N r first)) s)) :=
 zco env0_ok fn68 [(0, .ms lb sl 1 0 vs.length (some c)), (1, .int .i64 (first : Nat)), (2, .vptr [.int .i64 (K : Nat)]), (3, .mptr yb sy 0), (4, .vptr [.int .i64 (N : Nat)]), (5, .mptr wb sw 0)] (by show 6 ≤ 38; decide) rfl (h vs first c X lb sl H s h1 h2 h3 h4 h5 h6 h7 h8 h9 h10 h11)
theorem zvk {Pr : σ → List Int → Prop} {w0 : World} {N0 K N id sp yb sy wb sw r : Nat} (hloc : Local M I) (h : Walk step M I J Pr w0 N0 K N id sp yb sy wb sw r) (vs : List Int) (first : Nat) (lb sl : Nat) (H : HS) (s : σ) (h1 : vs.length + r = K) (h2 : first ≤ N) (h4 : CW K N id sp yb sy wb sw H) (h5 : Am.look lb H.heap = some (sl, .cells (vs.map (AV.int .i64)))) (h6 : lb < H.next) (h7 : ¬ M lb) (h8 : lb ≠ yb) (h9 : lb ≠ wb) (h10 : I s H) (h11 : zhh step Pr (beh vs (asc N r first)) s) :
  FT Try.prog w0 N0 68 [.ms lb sl 1 0 vs.length none, .int .i64 (first : Nat), .vptr [.int .i64 (K : Nat)], .mptr yb sy 0, .vptr [.int .i64 (N : Nat)], .mptr wb sw 0] H (Left (fun i => M i ∨ i = lb) I J H (ze9 step (beh vs (asc N r first)) s)) := by
 refine zco env0_ok fn68 [(0, .ms lb sl 1 0 vs.length none), (1, .int .i64 (first : Nat)), (2, .vptr [.int .i64 (K : Nat)]), (3, .mptr yb sy 0), (4, .vptr [.int .i64 (N : Nat)]), (5, .mptr wb sw 0)] (by show 6 ≤ 38; decide) rfl ?_
 refine zkm 0 rfl h5 (List.length_map ..) fun c hc => ?_
 refine zho (zaa (l' := [(0, .ms lb sl 1 0 vs.length (some c)), (1, .int .i64 (first : Nat)), (2, .vptr [.int .i64 (K : Nat)]), (3, .mptr yb sy 0), (4, .vptr [.int .i64 (N : Nat)]), (5, .mptr wb sw 0)]) (.cons rfl (.cons rfl (.cons rfl (.cons rfl (.cons rfl (.cons rfl .nil))))))) ?_
 have hK : Keep (fun i => i = lb) H ⟨zb1 lb (sl, .cells (zd9 vs (List.replicate (c - vs.length) .top))) H.heap, H.next, H.clk⟩ := ⟨Nat.le_refl _, Nat.le_refl _, fun i hi _ => by
  show Am.look i (zb1 lb _ H.heap) = _
  rw [za6, if_neg fun e => hi e.symm]⟩
 have hz := h vs first c (List.replicate (c - vs.length) .top) lb sl ⟨zb1 lb (sl, .cells (zd9 vs (List.replicate (c - vs.length) .top))) H.heap, H.next, H.clk⟩ s h1 h2 (by rw [List.length_replicate]; omega) (h4.keep hK (fun e => h8 e.symm) fun e => h9 e.symm) (by show Am.look lb (zb1 lb _ _) = _; rw [za6, if_pos rfl]) h6 h7 h8 h9
  (hloc.of s H _ h10 (Nat.le_refl _) fun i hi => hK.look i (fun e => h7 (e ▸ hi)) (hloc.lt s H h10 i hi)) h11
 refine zkn hz fun e S' ⟨he, v, hv, ⟨hk, hm⟩, _⟩ => ⟨he, v, hv, (Keep.mono hK fun i e => .inr e).trans hk, hm⟩
end
end Go.Proofs.Ytknomkcdpcnmaaa
