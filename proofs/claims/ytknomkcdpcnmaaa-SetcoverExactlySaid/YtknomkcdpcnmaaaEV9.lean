/-
  ALL CHOICES: the walk, where numbers are lacking.
-/
import Derived.Test.YtknomkcdpcnmaaaEV8
namespace Go.Proofs.Ytknomkcdpcnmaaa
open Go Go.Am
section
variable {σ τ : Type} {step : σ → List Int → σ ⊕ τ} {M : Nat → Prop} {I : σ → HS → Prop} {J : τ → HS → Prop}
set_option maxHeartbeats 8000000 in
theorem zwb {Pr : σ → List Int → Prop} {w0 : World} {N0 K N id sp yb sy wb sw r : Nat} (hK : K ≤ 1000000) (hN : N ≤ 1000000) (hloc : Local M I) (ny : ¬ M yb) (nw : ¬ M wb) (ih : Walk step M I J Pr w0 N0 K N id sp yb sy wb sw r) : Walk step M I J Pr w0 N0 K N id sp yb sy wb sw (r + 1) := by
 intro vs first c X lb sl H s h1 h2 h3 hC hlb hlt hM n1 n2 hI hal
 rw [zkz] at hal ⊢
 unfold ic68
 repeat (first | refine za6 ?_ | refine za0 rfl ?_ | refine za3 ?_ | refine za4 ?_ | refine za1 rfl ?_ | refine zah rfl rfl ?_ | refine zbf rfl rfl ?_)
 refine zb5 rfl rfl (by show some (AV.bool ((vs.length : Int) == (K : Int))) = _; rw [show ((vs.length : Int) == (K : Int)) = false by rw [beq_eq_false_iff_ne]; omega]) ?_
 repeat (first | refine za6 ?_ | refine za0 rfl ?_ | refine za3 ?_ | refine za4 ?_ | refine zai ?_ | refine zad ?_ | refine zbt rfl ?_ | refine za1 rfl ?_)
 refine zcr (fun mm S => ∃ i s' H' X', mm = N - i ∧ i ≤ N ∧ vs.length + X'.length = c ∧ X'.length = X.length ∧ ze9 step (beh vs (ascR N r first)) s = ze9 step (beh vs (ascR N r i)) s' ∧ zhl step Pr (beh vs (ascR N r i)) s' ∧ I s' H' ∧ Keep (fun j => M j ∨ j = lb) H H' ∧ Am.look lb H'.heap = some (sl, .cells (zd9 vs X')) ∧
   S = st 38 [(0, .ms lb sl 1 0 vs.length (some c)), (2, .vptr [.int .i64 (K : Nat)]), (3, .mptr yb sy 0), (4, .vptr [.int .i64 (N : Nat)]), (5, .mptr wb sw 0), (9, .int .i64 (i : Nat))] H'.heap H'.next H'.clk) (N - first)
  (zaa (.cons rfl (.cons rfl (.cons rfl (.cons rfl (.cons rfl (.cons rfl .nil))))))) ⟨first, s, H, X, rfl, h2, h3, rfl, rfl, hal, hI, .refl _ _, hlb, rfl⟩ ?_
 rintro mm S ⟨i, s', H', X', rfl, hi, hX, hXl, hfold, hal', hI', hKp, hlb', rfl⟩
 have hC' := hC.keep hKp (fun h => h.elim ny fun e => n1 e.symm) (fun h => h.elim nw fun e => n2 e.symm)
 have hlt' : lb < H'.next := Nat.lt_of_lt_of_le hlt hKp.next
 have hll := zm3 vs X'
 unfold b68_0
 repeat (first | refine za6 ?_ | refine za0 rfl ?_ | refine za1 rfl ?_ | refine zah rfl rfl ?_ | refine zbf rfl rfl ?_ | refine zac (op := .sub) rfl rfl rfl ?_)
 have hw1 : IntKind.wrap .i64 ((K : Int) - (vs.length : Int)) = ((r + 1 : Nat) : Int) := by rw [zdp _ (by omega) (by omega)]; omega
 have hw2 : IntKind.wrap .i64 ((N : Int) - ((r + 1 : Nat) : Int)) = (N : Int) - ((r + 1 : Nat) : Int) := zdp _ (by omega) (by omega)
 refine zax rfl rfl (by show some (AV.bool (decide ((i : Int) ≤ IntKind.wrap .i64 ((N : Int) - IntKind.wrap .i64 ((K : Int) - (vs.length : Int)))))) = _; rw [hw1, hw2]) (fun h => ?_) fun h => ?_
 ·have h : (i : Int) ≤ (N : Int) - ((r + 1 : Nat) : Int) := of_decide_eq_true h
  have hiN : i < N := by omega
  have w1 : IntKind.wrap .i64 (((i : Nat) : Int) + 1) = ((i + 1 : Nat) : Int) := zb0 i (by omega)
  rw [zmp hiN, zt2, zpk] at hfold hal'
  obtain ⟨hal1, hal2⟩ := zi9 _ _ _ hal'
  rw [zn0] at hfold
  generalize hin : ze9 step (beh (vs ++ [(i : Int)]) (asc N r (i + 1))) s' = o at *
  have hlv : (vs ++ [(i : Int)]).length = vs.length + 1 := by simp
  repeat (first | refine za6 ?_ | refine za3 ?_ | refine za4 ?_ | refine zai ?_ | refine zad ?_ | refine zc1 rfl ?_)
  by_cases hc : vs.length + 1 ≤ c
  ·obtain ⟨x, X1, rfl⟩ : ∃ x X1, X' = x :: X1 := by
    cases X' with
    | nil => simp at hX; omega
    | cons x X1 => exact ⟨x, X1, rfl⟩
   refine zs6 env0_ok 7 [] (fun _ hx => absurd hx List.not_mem_nil) (fun _ => false) (fun j => Nat.beq j wb) (fun j => Nat.beq j lb) (fun j e1 e2 => n2 ((Nat.eq_of_beq_eq_true e2).symm.trans (Nat.eq_of_beq_eq_true e1))) rfl rfl rfl rfl ?_
   refine zbw rfl hC'.hw hC'.lw rfl ?_ (ldOk rfl (Nat.beq_refl wb))
   refine za1 rfl (za1 rfl (zbg rfl rfl ?_))
   refine zf7 [[.int .i64 (i : Nat)]] rfl rfl (zdj (ys := []) zav rfl (fun x hx => by obtain rfl := List.mem_singleton.1 hx; rfl)) rfl (by decide) ((zak hlt').trans hlb') ?_ (by show vs.length + 1 ≤ _; omega) hc (zaz lb (sl, .cells (zd9 (vs ++ [(i : Int)]) X1)) ((H'.next, H'.clk, .cells [.int .i64 (i : Nat)]) :: H'.heap)) (fun _ => by rw [← zm4 (x := x)]; rfl) (fun h => Nat.noConfusion h) ?_ (zss rfl (Nat.beq_refl lb))
   ·rw [hll, Nat.mul_one]
    show vs.length + 1 ≤ vs.length + (X1.length + 1)
    omega
   refine za1 rfl (zac (op := .add) rfl rfl rfl (za3 (zal ⟨rfl, fun rd => ?_⟩)))
   rw [w1]
   have hKn : Keep (fun j => j = lb) H' ⟨zaz lb (sl, .cells (zd9 (vs ++ [(i : Int)]) X1)) ((H'.next, H'.clk, .cells [.int .i64 (i : Nat)]) :: H'.heap), H'.next + 1, H'.clk + 1⟩ := zlr (Nat.le_succ _)
   have hft := zwa ih (vs ++ [(i : Int)]) (i + 1) c X1 lb sl ⟨zaz lb (sl, .cells (zd9 (vs ++ [(i : Int)]) X1)) ((H'.next, H'.clk, .cells [.int .i64 (i : Nat)]) :: H'.heap), H'.next + 1, H'.clk + 1⟩ s' (by omega) (by omega) (by have : (x :: X1).length = X1.length + 1 := rfl; omega) (hC'.keep hKn (fun e => n1 e.symm) fun e => n2 e.symm)
    (by show Am.look lb (zaz lb _ _) = _; rw [za5, if_pos rfl]) (Nat.lt_succ_of_lt hlt') hM n1 n2 (hloc.of s' H' _ hI' (Nat.le_succ _) fun j hj => hKn.look j (fun e => hM (e ▸ hj)) (hloc.lt s' H' hI' j hj)) hal1
   rw [hin] at hft
   refine AnyF.one 7 (by decide) (zml _ rfl rfl rfl rfl (zho (by rw [hlv] at hft; exact hft)) (fun _ _ _ _ h => absurd h List.not_mem_nil) fun v H1 hF => ?_)
   obtain ⟨⟨hk1, hm⟩, X2, hX2, hlb2⟩ := hF
   have hk2 : Keep (fun j => M j ∨ j = lb) H' H1 := (Keep.mono hKn fun j e => .inr e).trans hk1
   have hlb3 : Am.look lb H1.heap = some (sl, .cells (zd9 vs (.int .i64 (i : Nat) :: X2))) := by
    rw [hlb2]
    unfold zd9
    rw [List.map_append, List.append_assoc]
    rfl
   cases o with
   | inr t =>
    obtain ⟨rfl, hJ⟩ := hm
    refine AnyF.one 8 (by decide) (zi8 rfl rfl (g_un rfl rfl) (AnyF.fin (by decide) (Um.ok ?_)))
    repeat (first | refine za6 ?_ | refine za0 rfl ?_ | refine za3 ?_ | refine za4 ?_ | refine zc1 rfl ?_ | refine zas ?_ | refine za8 ?_ | refine zab ?_ | refine za1 rfl ?_)
    refine zbk ?_
    repeat (first | refine za8 ?_ | refine zab ?_)
    exact zal ⟨.inr rfl, _, rfl, ⟨hKp.trans hk2, by rw [hfold]; exact ⟨rfl, hJ⟩⟩, _, by rw [List.length_cons, hX2]; exact hXl, hlb3⟩
   | inl s2 =>
    obtain ⟨rfl, hI2⟩ := hm
    refine AnyF.one 8 (by decide) (zi8 rfl rfl (g_un rfl rfl) (AnyF.fin (by decide) (Um.ok ?_)))
    repeat (first | refine za0 rfl ?_ | refine za3 ?_ | refine za4 ?_ | refine zbj ?_ | refine zad ?_ | refine zbt rfl ?_ | refine za1 rfl ?_ | refine zac (op := .add) rfl rfl rfl ?_)
    rw [w1]
    exact zb4 (show N - (i + 1) < N - i by omega) (zaa (.cons rfl (.cons rfl (.cons rfl (.cons rfl (.cons rfl (.cons rfl .nil))))))) ⟨i + 1, s2, H1, _, rfl, by omega, by rw [List.length_cons, hX2]; exact hX, by rw [List.length_cons, hX2]; exact hXl, hfold, hal2 s2 rfl, hI2, hKp.trans hk2, hlb3, rfl⟩
  ·refine zs6 env0_ok 7 [] (fun _ hx => absurd hx List.not_mem_nil) (fun _ => false) (fun j => Nat.beq j wb) (fun j => Nat.beq j lb) (fun j e1 e2 => n2 ((Nat.eq_of_beq_eq_true e2).symm.trans (Nat.eq_of_beq_eq_true e1))) rfl rfl rfl rfl ?_
   refine zbw rfl hC'.hw hC'.lw rfl ?_ (ldOk rfl (Nat.beq_refl wb))
   refine za1 rfl (za1 rfl (zbg rfl rfl ?_))
   refine zer [[.int .i64 (i : Nat)]] rfl rfl (zdj (ys := []) zav rfl (fun x hx => by obtain rfl := List.mem_singleton.1 hx; rfl)) (fun h => Nat.noConfusion h) rfl (by decide) ((zak hlt').trans hlb') (by rw [hll]; omega) (by show vs.length + 1 ≤ _; omega) (by show c < vs.length + 1; omega) ?_ (zss rfl (Nat.beq_refl lb))
   refine za1 rfl (zac (op := .add) rfl rfl rfl (za3 (zal ⟨rfl, fun rd => ?_⟩)))
   rw [w1, zji]
   have hvm : vs.map (AV.int .i64) ++ [[AV.int .i64 (i : Nat)]].flatten = (vs ++ [(i : Int)]).map (AV.int .i64) := by rw [List.map_append]; rfl
   rw [hvm]
   have hly := hC'.ly
   have hlw := hC'.lw
   have hnM : ¬ M (H'.next + 1) := fun h => by have := hloc.lt s' H' hI' _ h; omega
   have hKn : Keep (fun _ => False) H' ⟨(H'.next + 1, H'.clk + 1, .cells ((vs ++ [(i : Int)]).map (AV.int .i64))) :: (H'.next, H'.clk, .cells [.int .i64 (i : Nat)]) :: H'.heap, H'.next + 1 + 1, H'.clk + 1 + 1⟩ := zhy (by omega)
   have hft := zw9 hloc ih (vs ++ [(i : Int)]) (i + 1) (H'.next + 1) (H'.clk + 1) ⟨(H'.next + 1, H'.clk + 1, .cells ((vs ++ [(i : Int)]).map (AV.int .i64))) :: (H'.next, H'.clk, .cells [.int .i64 (i : Nat)]) :: H'.heap, H'.next + 1 + 1, H'.clk + 1 + 1⟩ s' (by omega) (by omega) (hC'.keep hKn (fun h => h) fun h => h)
    zav (Nat.lt_succ_self _) hnM (by omega) (by omega) (hloc.of s' H' _ hI' hKn.next fun j hj => hKn.look j (fun h => h) (hloc.lt s' H' hI' j hj)) hal1
   rw [hin] at hft
   refine AnyF.one 7 (by decide) (zml _ rfl rfl rfl rfl (zho (by rw [hlv] at hft; exact hft)) (fun _ _ _ _ h => absurd h List.not_mem_nil) fun v H1 hF => ?_)
   obtain ⟨hk1, hm⟩ := hF
   have hk2 : Keep (fun j => M j) H' H1 := ⟨Nat.le_trans hKn.next hk1.next, Nat.le_trans hKn.clk hk1.clk, fun j hj hj2 => (hk1.look j (fun h => h.elim hj fun e => by omega) (by show j < H'.next + 1 + 1; omega)).trans (hKn.look j (fun h => h) hj2)⟩
   have hlb3 : Am.look lb H1.heap = some (sl, .cells (zd9 vs X')) := (hk2.look lb hM hlt').trans hlb'
   have hk2 : Keep (fun j => M j ∨ j = lb) H' H1 := Keep.mono hk2 fun j h => .inl h
   cases o with
   | inr t =>
    obtain ⟨rfl, hJ⟩ := hm
    refine AnyF.one 8 (by decide) (zi8 rfl rfl (g_un rfl rfl) (AnyF.fin (by decide) (Um.ok ?_)))
    repeat (first | refine za6 ?_ | refine za0 rfl ?_ | refine za3 ?_ | refine za4 ?_ | refine zc1 rfl ?_ | refine zas ?_ | refine za8 ?_ | refine zab ?_ | refine za1 rfl ?_)
    refine zbk ?_
    repeat (first | refine za8 ?_ | refine zab ?_)
    exact zal ⟨.inr rfl, _, rfl, ⟨hKp.trans hk2, by rw [hfold]; exact ⟨rfl, hJ⟩⟩, _, hXl, hlb3⟩
   | inl s2 =>
    obtain ⟨rfl, hI2⟩ := hm
    refine AnyF.one 8 (by decide) (zi8 rfl rfl (g_un rfl rfl) (AnyF.fin (by decide) (Um.ok ?_)))
    repeat (first | refine za0 rfl ?_ | refine za3 ?_ | refine za4 ?_ | refine zbj ?_ | refine zad ?_ | refine zbt rfl ?_ | refine za1 rfl ?_ | refine zac (op := .add) rfl rfl rfl ?_)
    rw [w1]
    exact zb4 (show N - (i + 1) < N - i by omega) (zaa (.cons rfl (.cons rfl (.cons rfl (.cons rfl (.cons rfl (.cons rfl .nil))))))) ⟨i + 1, s2, H1, _, rfl, by omega, hX, hXl, hfold, hal2 s2 rfl, hI2, hKp.trans hk2, hlb3, rfl⟩
 ·have h : ¬ (i : Int) ≤ (N : Int) - ((r + 1 : Nat) : Int) := of_decide_eq_false h
  rw [ascR_nil (n := N) (k := r) (i := i) (by omega)] at hfold
  repeat (first | refine za3 ?_ | refine za4 ?_ | refine zbt rfl ?_ | refine zbc ?_ | refine zaf ?_)
  refine ze6 ?_
  repeat (first | refine za6 ?_ | refine za0 rfl ?_ | refine za3 ?_ | refine za4 ?_ | refine zas ?_ | refine zbb ?_ | refine za1 rfl ?_)
  exact zal ⟨.inr rfl, _, rfl, ⟨hKp, by rw [hfold]; exact ⟨rfl, hI'⟩⟩, X', hXl, hlb'⟩
end
end Go.Proofs.Ytknomkcdpcnmaaa
