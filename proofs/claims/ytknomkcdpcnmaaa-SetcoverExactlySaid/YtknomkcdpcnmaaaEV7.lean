/-
  ALL CHOICES: setcover.choices.
-/
import Derived.Test.YtknomkcdpcnmaaaEV6
namespace Go.Proofs.Ytknomkcdpcnmaaa
open Go Go.Am
-- pneumatic/setcover.choices
def ic56 : IC := .seq (.region [⟨(some 2), .box (.t 0), none⟩,
  ⟨(some 3), .box (.t 1), none⟩,
  ⟨(some 4), .mov (.c (.nilf)), none⟩] none)
 (.seq (.region [⟨(some 5), .mkfn 67 [] [(.t 3), (.t 2)], none⟩,
  ⟨(some 4), .mov (.t 5), none⟩] none)
 (.ret))
theorem fn56 : env0.fn 56 = some ⟨6, ic56, [.t 4]⟩ := by kernel_rfl
-- pneumatic/setcover.choices$1
def ic67 : IC := .seq (.region [⟨(some 3), .box (.t 0), none⟩] none)
 (.seq (.region [⟨(some 4), .alloc [.nilf], none⟩] none)
 (.seq (.region [⟨(some 5), .mkfn 68 [] [(.t 1), (.t 3), (.t 2), (.t 4)], none⟩,
  ⟨none, .store 1 (.t 4) (.t 5), none⟩] none)
 (.region [⟨(some 6), .load none (.t 4), none⟩,
  ⟨(some 7), .call (.t 6) [(.c (.nils)), (.c (.int .i64 0))], none⟩] none)))
theorem fn67 : env0.fn 67 = some ⟨8, ic67, []⟩ := by kernel_rfl
def b68_0 : IC := .seq (.seq (.region [⟨(some 19), .mov (.t 9), none⟩,
  ⟨(some 20), .load none (.t 4), none⟩,
  ⟨(some 21), .load none (.t 2), none⟩,
  ⟨(some 22), .mov (.t 0), none⟩,
  ⟨(some 23), .len false (.t 22), none⟩,
  ⟨(some 24), .bin .sub (.t 21) (.t 23), none⟩,
  ⟨(some 25), .bin .sub (.t 20) (.t 24), none⟩,
  ⟨(some 26), .bin .leq (.t 19) (.t 25), none⟩] none)
 (.cond (.t 26) (.skip)
 (.exit 0)))
 (.seq (.block 1 (.seq (.region [⟨(some 29), .load none (.t 5), none⟩,
  ⟨(some 30), .mov (.t 0), none⟩,
  ⟨(some 31), .mov (.t 9), none⟩,
  ⟨(some 32), .bslice 1 1 [.int .i64 0] [(0, 1, (.t 31))], none⟩,
  ⟨(some 33), .append 1 8 [.int .i64 0] (.t 30) (.t 32), none⟩,
  ⟨(some 34), .mov (.t 9), none⟩,
  ⟨(some 35), .bin .add (.t 34) (.c (.int .i64 1)), none⟩,
  ⟨(some 36), .call (.t 29) [(.t 33), (.t 35)], none⟩,
  ⟨(some 37), .un .not (.t 36), none⟩] (some [[], [], [], [2], [1, 3], [], [5], [0, 4, 6, 4], [7]]))
 (.cond (.t 37) (.seq (.region [⟨(some 8), .mov (.c (.bool false)), none⟩] none)
 (.ret))
 (.skip))))
 (.region [⟨(some 27), .mov (.t 9), none⟩,
  ⟨(some 28), .bin .add (.t 27) (.c (.int .i64 1)), none⟩,
  ⟨(some 9), .mov (.t 28), none⟩] none))
-- pneumatic/setcover.choices$1$1
def ic68 : IC := .seq (.region [⟨(some 8), .mov (.c (.bool false)), none⟩] none)
 (.seq (.seq (.region [⟨(some 10), .mov (.t 0), none⟩,
  ⟨(some 11), .len false (.t 10), none⟩,
  ⟨(some 12), .load none (.t 2), none⟩,
  ⟨(some 13), .bin .eql (.t 11) (.t 12), none⟩] none)
 (.cond (.t 13) (.seq (.region [⟨(some 14), .load none (.t 3), none⟩,
  ⟨(some 15), .mov (.t 0), none⟩,
  ⟨(some 16), .call (.c (.fn 45 [] [])) [(.t 15)], none⟩,
  ⟨(some 17), .call (.t 14) [(.t 16)], none⟩,
  ⟨(some 8), .mov (.t 17), none⟩] (some [[], [], [1], [0, 2, 2], [3, 3, 0, 1, 2, 3]]))
 (.ret))
 (.skip)))
 (.seq (.seq (.region [⟨(some 18), .mov (.t 1), none⟩,
  ⟨(some 9), .mov (.t 18), none⟩] none)
 (.block 0 (.loop b68_0)))
 (.seq (.region [⟨(some 8), .mov (.c (.bool true)), none⟩] none)
 (.ret))))
theorem fn68 : env0.fn 68 = some ⟨38, ic68, [.t 8]⟩ := by kernel_rfl
theorem zte (n k : Int) : PF Try.prog 56 [.int .i64 n, .int .i64 k] (.fn 67 [] [.vptr [.int .i64 k], .vptr [.int .i64 n]]) := by
 refine zbd env0_ok fn56 [(0, .int .i64 n), (1, .int .i64 k)] (by show 2 ≤ 6; decide) rfl fun w0 N0 => ?_
 unfold ic56
 repeat (first | refine za6 ?_ | refine za0 rfl ?_ | refine za3 ?_ | refine za4 ?_ | refine zbj ?_ | refine zai ?_ | refine zad ?_ | refine zc1 rfl ?_ | refine zbt rfl ?_ | refine zbc ?_ | refine zas ?_ | refine zbb ?_ | refine zaf ?_ | refine zb7 rfl ?_ | refine za8 ?_ | refine zab ?_ | refine zcp rfl ?_ | refine zh8 rfl rfl ?_ | refine zrp rfl ?_ | refine za1 rfl ?_ | refine zah rfl rfl ?_ | refine zb2 rfl rfl rfl rfl ?_ | refine zb9 rfl rfl rfl rfl rfl rfl rfl ?_ | refine zcu rfl ?_ | refine za9 rfl rfl rfl ?_ | refine zaw rfl rfl rfl ?_ | refine zc7 rfl rfl rfl rfl ?_ | refine zc2 ?_ | refine zan rfl rfl ?_ | refine zam rfl rfl ?_ | refine zqh rfl rfl ?_ | refine zbf rfl rfl ?_ | refine zdc rfl rfl ?_ | refine zbg rfl rfl ?_ | refine zd7 rfl rfl ?_ | refine zc8 rfl rfl rfl ?_ | refine zdo rfl rfl ?_ | refine zct rfl rfl rfl rfl ?_ | refine zc6 rfl rfl rfl rfl ?_ | refine zcw rfl rfl rfl rfl ?_ | refine zec rfl rfl ?_ | refine zdy rfl rfl ?_ | refine zb8 rfl rfl ?_ | refine zfa ?_ | refine zcm env0_ok rfl rfl rfl ?_ | refine zac (op := .add) rfl rfl rfl ?_ | refine zac (op := .sub) rfl rfl rfl ?_ | refine zf9 rfl rfl rfl ?_ | refine zf8 rfl rfl rfl ?_ | refine zbr rfl rfl rfl ?_ | refine zb5 rfl rfl rfl ?_ | refine zba rfl rfl (by omega) (by assumption) rfl ?_ | refine zaw rfl rfl (decide_eq_true ⟨by omega, by omega⟩) ?_ | refine zbv rfl rfl (by omega) (by omega) ?_ | refine zcv rfl rfl rfl ?_ | refine zfc rfl ?_ | refine zfb rfl ?_)
 exact zal ⟨.inr rfl, _, rfl, rfl⟩
structure CW (K N : Int) (id sp yb sy wb sw : Nat) (H : HS) : Prop where
 hy : Am.look yb H.heap = some (sy, .cells [.yield id sp])
 hw : Am.look wb H.heap = some (sw, .cells [.fn 68 [] [.vptr [.int .i64 K], .mptr yb sy 0, .vptr [.int .i64 N], .mptr wb sw 0]])
 ly : yb < H.next
 lw : wb < H.next
theorem CW.keep {M : Nat → Prop} {K N : Int} {id sp yb sy wb sw : Nat} {H H' : HS} (h : CW K N id sp yb sy wb sw H) (k : Keep M H H') (n1 : ¬ M yb) (n2 : ¬ M wb) : CW K N id sp yb sy wb sw H' :=
 ⟨(k.look yb n1 h.ly).trans h.hy, (k.look wb n2 h.lw).trans h.hw, Nat.lt_of_lt_of_le h.ly k.next, Nat.lt_of_lt_of_le h.lw k.next⟩
section
variable {σ τ : Type} {step : σ → List Int → σ ⊕ τ} {M : Nat → Prop} {I : σ → HS → Prop} {J : τ → HS → Prop}
def LeftW (M : Nat → Prop) (I : σ → HS → Prop) (J : τ → HS → Prop) (lb sl : Nat) (vs : List Int) (m : Nat) (H : HS) (o : σ ⊕ τ) (v : AV) (H' : HS) : Prop :=
 Left (fun i => M i ∨ i = lb) I J H o v H' ∧ ∃ X, X.length = m ∧ Am.look lb H'.heap = some (sl, .cells (zd9 vs X))
def Walk (step : σ → List Int → σ ⊕ τ) (M : Nat → Prop) (I : σ → HS → Prop) (J : τ → HS → Prop) (Pr : σ → List Int → Prop) (w0 : World) (N0 K N id sp yb sy wb sw r : Nat) : Prop :=
 ∀ (vs : List Int) (first c : Nat) (X : List AV) (lb sl : Nat) (H : HS) (s : σ), vs.length + r = K → first ≤ N → vs.length + X.length = c → CW K N id sp yb sy wb sw H → Am.look lb H.heap = some (sl, .cells (zd9 vs X)) → lb < H.next → ¬ M lb → lb ≠ yb → lb ≠ wb → I s H → zhl step Pr (beh vs (asc N r first)) s →
  Zm Try.prog w0 N0 (some none) ic68 (st 38 [(0, .ms lb sl 1 0 vs.length (some c)), (1, .int .i64 (first : Nat)), (2, .vptr [.int .i64 (K : Nat)]), (3, .mptr yb sy 0), (4, .vptr [.int .i64 (N : Nat)]), (5, .mptr wb sw 0)] H.heap H.next H.clk) []
   fun e S' => (e = .normal ∨ e = .ret) ∧ ∃ v, S'.leave.res [.t 8] = some v ∧ LeftW M I J lb sl vs X.length H (ze9 step (beh vs (asc N r first)) s) v S'.leave.hs
theorem zwa {Pr : σ → List Int → Prop} {w0 : World} {N0 K N id sp yb sy wb sw r : Nat} (h : Walk step M I J Pr w0 N0 K N id sp yb sy wb sw r) (vs : List Int) (first c : Nat) (X : List AV) (lb sl : Nat) (H : HS) (s : σ) (h1 : vs.length + r = K) (h2 : first ≤ N) (h3 : vs.length + X.length = c) (h4 : CW K N id sp yb sy wb sw H) (h5 : Am.look lb H.heap = some (sl, .cells (zd9 vs X))) (h6 : lb < H.next) (h7 : ¬ M lb) (h8 : lb ≠ yb) (h9 : lb ≠ wb) (h10 : I s H) (h11 : zhl step Pr (beh vs (asc N r first)) s) :
  FT Try.prog w0 N0 68 [.ms lb sl 1 0 vs.length (some c), .int .i64 (first : Nat), .vptr [.int .i64 (K : Nat)], .mptr yb sy 0, .vptr [.int .i64 (N : Nat)], .mptr wb sw 0] H (LeftW M I J lb sl vs X.length H (ze9 step (beh vs (asc N r first)) s)) :=
 zcs env0_ok fn68 [(0, .ms lb sl 1 0 vs.length (some c)), (1, .int .i64 (first : Nat)), (2, .vptr [.int .i64 (K : Nat)]), (3, .mptr yb sy 0), (4, .vptr [.int .i64 (N : Nat)]), (5, .mptr wb sw 0)] (by show 6 ≤ 38; decide) rfl (h vs first c X lb sl H s h1 h2 h3 h4 h5 h6 h7 h8 h9 h10 h11)
theorem zw9 {Pr : σ → List Int → Prop} {w0 : World} {N0 K N id sp yb sy wb sw r : Nat} (hloc : Local M I) (h : Walk step M I J Pr w0 N0 K N id sp yb sy wb sw r) (vs : List Int) (first : Nat) (lb sl : Nat) (H : HS) (s : σ) (h1 : vs.length + r = K) (h2 : first ≤ N) (h4 : CW K N id sp yb sy wb sw H) (h5 : Am.look lb H.heap = some (sl, .cells (vs.map (AV.int .i64)))) (h6 : lb < H.next) (h7 : ¬ M lb) (h8 : lb ≠ yb) (h9 : lb ≠ wb) (h10 : I s H) (h11 : zhl step Pr (beh vs (asc N r first)) s) :
  FT Try.prog w0 N0 68 [.ms lb sl 1 0 vs.length none, .int .i64 (first : Nat), .vptr [.int .i64 (K : Nat)], .mptr yb sy 0, .vptr [.int .i64 (N : Nat)], .mptr wb sw 0] H (Left (fun i => M i ∨ i = lb) I J H (ze9 step (beh vs (asc N r first)) s)) := by
 refine zcs env0_ok fn68 [(0, .ms lb sl 1 0 vs.length none), (1, .int .i64 (first : Nat)), (2, .vptr [.int .i64 (K : Nat)]), (3, .mptr yb sy 0), (4, .vptr [.int .i64 (N : Nat)]), (5, .mptr wb sw 0)] (by show 6 ≤ 38; decide) rfl ?_
 refine zku 0 rfl h5 (List.length_map ..) fun c hc => ?_
 refine zhr (zaa (l' := [(0, .ms lb sl 1 0 vs.length (some c)), (1, .int .i64 (first : Nat)), (2, .vptr [.int .i64 (K : Nat)]), (3, .mptr yb sy 0), (4, .vptr [.int .i64 (N : Nat)]), (5, .mptr wb sw 0)]) (.cons rfl (.cons rfl (.cons rfl (.cons rfl (.cons rfl (.cons rfl .nil))))))) ?_
 have hK : Keep (fun i => i = lb) H ⟨zaz lb (sl, .cells (zd9 vs (List.replicate (c - vs.length) .top))) H.heap, H.next, H.clk⟩ := ⟨Nat.le_refl _, Nat.le_refl _, fun i hi _ => by
  show Am.look i (zaz lb _ H.heap) = _
  rw [za5, if_neg fun e => hi e.symm]⟩
 have hz := h vs first c (List.replicate (c - vs.length) .top) lb sl ⟨zaz lb (sl, .cells (zd9 vs (List.replicate (c - vs.length) .top))) H.heap, H.next, H.clk⟩ s h1 h2 (by rw [List.length_replicate]; omega) (h4.keep hK (fun e => h8 e.symm) fun e => h9 e.symm) (by show Am.look lb (zaz lb _ _) = _; rw [za5, if_pos rfl]) h6 h7 h8 h9
  (hloc.of s H _ h10 (Nat.le_refl _) fun i hi => hK.look i (fun e => h7 (e ▸ hi)) (hloc.lt s H h10 i hi)) h11
 refine zkv hz fun e S' ⟨he, v, hv, ⟨hk, hm⟩, _⟩ => ⟨he, v, hv, (Keep.mono hK fun i e => .inr e).trans hk, hm⟩
end
end Go.Proofs.Ytknomkcdpcnmaaa
