/-
  ALL CHOICES: the walk, where numbers are lacking.; ALL CHOICES: ranging over them.; MAKE OF A LIST OF A LENGTH THAT IS NOT KNOWN; STATES PUT ANEW, WITH MARKS; RESULTS IN CELLS.; THE FIRST COVER: setcover.Fewest.; COVERS: what is needed of the plain laws.; COVERS BY WHAT CAN BE REACHED, AND COMPONENTS TO WHICH NO EDGE LEADS: the plain law of TopPathsCovers.; SMALL GRAPHS, THE FIXED EXAMPLE; IS AN E
-/
import Derived.Test.YtfbeableaihooaaVX4
namespace Go.Proofs.Ytfbeableaihooaa.Sc
open Go Go.Am
section
variable {σ τ : Type} {step : σ → List Int → σ ⊕ τ} {M : Nat → Prop} {I : σ → HS → Prop} {J : τ → HS → Prop}
set_option maxHeartbeats 8000000 in
theorem zxl {Pr : σ → List Int → Prop} {w0 : World} {N0 K N id sp yb sy wb sw r : Nat} (hK : K ≤ 1000000) (hN : N ≤ 1000000) (hloc : Local M I) (ny : ¬ M yb) (nw : ¬ M wb) (ih : Walk step M I J Pr w0 N0 K N id sp yb sy wb sw r) : Walk step M I J Pr w0 N0 K N id sp yb sy wb sw (r + 1) := by
 intro vs first c X lb sl H s h1 h2 h3 hC hlb hlt hM n1 n2 hI hal
 rw [asc_succ] at hal ⊢
 unfold ic61
 repeat (first | refine za7 ?_ | refine za0 rfl ?_ | refine za5 ?_ | refine za4 ?_ | refine za3 rfl ?_ | refine zad rfl rfl ?_ | refine zbo rfl rfl ?_)
 refine zd5 rfl rfl (by show some (AV.bool ((vs.length : Int) == (K : Int))) = _; rw [show ((vs.length : Int) == (K : Int)) = false by rw [beq_eq_false_iff_ne]; omega]) ?_
 repeat (first | refine za7 ?_ | refine za0 rfl ?_ | refine za5 ?_ | refine za4 ?_ | refine zab ?_ | refine zaf ?_ | refine zc7 rfl ?_ | refine za3 rfl ?_)
 refine zbv (fun mm S => ∃ i s' H' X', mm = N - i ∧ i ≤ N ∧ vs.length + X'.length = c ∧ X'.length = X.length ∧ zcs step (beh vs (ascR N r first)) s = zcs step (beh vs (ascR N r i)) s' ∧ zfb step Pr (beh vs (ascR N r i)) s' ∧ I s' H' ∧ Keep (fun j => M j ∨ j = lb) H H' ∧ Am.look lb H'.heap = some (sl, .cells (zjz vs X')) ∧
   S = st 38 [(0, .ms lb sl 1 0 vs.length (some c)), (2, .vptr [.int .i64 (K : Nat)]), (3, .mptr yb sy 0), (4, .vptr [.int .i64 (N : Nat)]), (5, .mptr wb sw 0), (9, .int .i64 (i : Nat))] H'.heap H'.next H'.clk) (N - first)
  (zaa (.cons rfl (.cons rfl (.cons rfl (.cons rfl (.cons rfl (.cons rfl .nil))))))) ⟨first, s, H, X, rfl, h2, h3, rfl, rfl, hal, hI, .refl _ _, hlb, rfl⟩ ?_
 rintro mm S ⟨i, s', H', X', rfl, hi, hX, hXl, hfold, hal', hI', hKp, hlb', rfl⟩
 have hC' := hC.keep hKp (fun h => h.elim ny fun e => n1 e.symm) (fun h => h.elim nw fun e => n2 e.symm)
 have hlt' : lb < H'.next := y1e hlt hKp.next
 have hll := room_len vs X'
 unfold b61_0
 repeat (first | refine za7 ?_ | refine za0 rfl ?_ | refine za3 rfl ?_ | refine zad rfl rfl ?_ | refine zbo rfl rfl ?_ | refine zb1 (op := .sub) rfl rfl rfl ?_)
 have hw1 : IntKind.wrap .i64 ((K : Int) - (vs.length : Int)) = ((r + 1 : Nat) : Int) := by rw [zhj _ (by omega) (by omega)]; omega
 have hw2 : IntKind.wrap .i64 ((N : Int) - ((r + 1 : Nat) : Int)) = (N : Int) - ((r + 1 : Nat) : Int) := zhj _ (by omega) (by omega)
 refine zax rfl rfl (by show some (AV.bool (decide ((i : Int) ≤ IntKind.wrap .i64 ((N : Int) - IntKind.wrap .i64 ((K : Int) - (vs.length : Int)))))) = _; rw [hw1, hw2]) (fun h => ?_) fun h => ?_
 ·have h : (i : Int) ≤ (N : Int) - ((r + 1 : Nat) : Int) := of_decide_eq_true h
  have hiN : i < N := by omega
  have w1 : IntKind.wrap .i64 (((i : Nat) : Int) + 1) = ((i + 1 : Nat) : Int) := zam i (by omega)
  rw [ztf hiN, beh_app, beh_cons] at hfold hal'
  obtain ⟨hal1, hal2⟩ := zej _ _ _ hal'
  rw [zgo] at hfold
  generalize hin : zcs step (beh (vs ++ [(i : Int)]) (asc N r (i + 1))) s' = o at *
  have hlv : (vs ++ [(i : Int)]).length = vs.length + 1 := by simp
  repeat (first | refine za7 ?_ | refine za5 ?_ | refine za4 ?_ | refine zab ?_ | refine zaf ?_ | refine zc8 rfl ?_)
  by_cases hc : vs.length + 1 ≤ c
  ·obtain ⟨x, X1, rfl⟩ : ∃ x X1, X' = x :: X1 := by
    cases X' with
    | nil => simp at hX; omega
    | cons x X1 => exact ⟨x, X1, rfl⟩
   refine z_cut env0_ok 7 [] (fun _ hx => absurd hx y0i) (fun _ => false) (fun j => Nat.beq j wb) (fun j => Nat.beq j lb) (fun j e1 e2 => n2 ((y0n e2).symm.trans (y0n e1))) rfl rfl rfl rfl ?_
   refine zlx rfl hC'.hw hC'.lw rfl ?_ (zs5 rfl (y25 wb))
   refine za3 rfl (za3 rfl (zb6 rfl rfl ?_))
   refine zni [[.int .i64 (i : Nat)]] rfl rfl (zcr (ys := []) zaq rfl (fun x hx => by obtain rfl := y0e.1 hx; rfl)) rfl (by decide) ((zdc hlt').trans hlb') ?_ (by show vs.length + 1 ≤ _; omega) hc (zaz lb (sl, .cells (zjz (vs ++ [(i : Int)]) X1)) ((H'.next, H'.clk, .cells [.int .i64 (i : Nat)]) :: H'.heap)) (fun _ => by rw [← room_set (x := x)]; rfl) (fun h => Nat.noConfusion h) ?_ (apOk rfl (y25 lb))
   ·rw [hll, Nat.mul_one]
    show vs.length + 1 ≤ vs.length + (X1.length + 1)
    omega
   refine za3 rfl (zb1 (op := .add) rfl rfl rfl (za5 (zak ⟨rfl, fun rd => ?_⟩)))
   rw [w1]
   have hKn : Keep (fun j => j = lb) H' ⟨zaz lb (sl, .cells (zjz (vs ++ [(i : Int)]) X1)) ((H'.next, H'.clk, .cells [.int .i64 (i : Nat)]) :: H'.heap), H'.next + 1, H'.clk + 1⟩ := keep_put (y23 _)
   have hft := zxk ih (vs ++ [(i : Int)]) (i + 1) c X1 lb sl ⟨zaz lb (sl, .cells (zjz (vs ++ [(i : Int)]) X1)) ((H'.next, H'.clk, .cells [.int .i64 (i : Nat)]) :: H'.heap), H'.next + 1, H'.clk + 1⟩ s' (by omega) (by omega) (by have : (x :: X1).length = X1.length + 1 := rfl; omega) (hC'.keep hKn (fun e => n1 e.symm) fun e => n2 e.symm)
    (by show Am.look lb (zaz lb _ _) = _; rw [za1, if_pos rfl]) (Nat.lt_succ_of_lt hlt') hM n1 n2 (hloc.of s' H' _ hI' (y23 _) fun j hj => hKn.look j (fun e => hM (e ▸ hj)) (hloc.lt s' H' hI' j hj)) hal1
   rw [hin] at hft
   refine AnyF.one 7 (by decide) (af_ct _ rfl rfl rfl rfl (zmy (by rw [hlv] at hft; exact hft)) (fun _ _ _ _ h => absurd h y0i) fun v H1 hF => ?_)
   obtain ⟨⟨hk1, hm⟩, X2, hX2, hlb2⟩ := hF
   have hk2 : Keep (fun j => M j ∨ j = lb) H' H1 := (Keep.mono hKn fun j e => .inr e).trans hk1
   have hlb3 : Am.look lb H1.heap = some (sl, .cells (zjz vs (.int .i64 (i : Nat) :: X2))) := by
    rw [hlb2]
    unfold zjz
    rw [y16, y19]
    rfl
   cases o with
   | inr t =>
    obtain ⟨rfl, hJ⟩ := hm
    refine AnyF.one 8 (by decide) (zh5 rfl rfl (g_un rfl rfl) (AnyF.fin (by decide) (Um.ok ?_)))
    repeat (first | refine za7 ?_ | refine za0 rfl ?_ | refine za5 ?_ | refine za4 ?_ | refine zc8 rfl ?_ | refine zao ?_ | refine za9 ?_ | refine zaj ?_ | refine za3 rfl ?_)
    refine zer ?_
    repeat (first | refine za9 ?_ | refine zaj ?_)
    exact zak ⟨.inr rfl, _, rfl, ⟨hKp.trans hk2, by rw [hfold]; exact ⟨rfl, hJ⟩⟩, _, by rw [y0l, hX2]; exact hXl, hlb3⟩
   | inl s2 =>
    obtain ⟨rfl, hI2⟩ := hm
    refine AnyF.one 8 (by decide) (zh5 rfl rfl (g_un rfl rfl) (AnyF.fin (by decide) (Um.ok ?_)))
    repeat (first | refine za0 rfl ?_ | refine za5 ?_ | refine za4 ?_ | refine zbl ?_ | refine zaf ?_ | refine zc7 rfl ?_ | refine za3 rfl ?_ | refine zb1 (op := .add) rfl rfl rfl ?_)
    rw [w1]
    exact zay (show N - (i + 1) < N - i by omega) (zaa (.cons rfl (.cons rfl (.cons rfl (.cons rfl (.cons rfl (.cons rfl .nil))))))) ⟨i + 1, s2, H1, _, rfl, by omega, by rw [y0l, hX2]; exact hX, by rw [y0l, hX2]; exact hXl, hfold, hal2 s2 rfl, hI2, hKp.trans hk2, hlb3, rfl⟩
  ·refine z_cut env0_ok 7 [] (fun _ hx => absurd hx y0i) (fun _ => false) (fun j => Nat.beq j wb) (fun j => Nat.beq j lb) (fun j e1 e2 => n2 ((y0n e2).symm.trans (y0n e1))) rfl rfl rfl rfl ?_
   refine zlx rfl hC'.hw hC'.lw rfl ?_ (zs5 rfl (y25 wb))
   refine za3 rfl (za3 rfl (zb6 rfl rfl ?_))
   refine zlw [[.int .i64 (i : Nat)]] rfl rfl (zcr (ys := []) zaq rfl (fun x hx => by obtain rfl := y0e.1 hx; rfl)) (fun h => Nat.noConfusion h) rfl (by decide) ((zdc hlt').trans hlb') (by rw [hll]; omega) (by show vs.length + 1 ≤ _; omega) (by show c < vs.length + 1; omega) ?_ (apOk rfl (y25 lb))
   refine za3 rfl (zb1 (op := .add) rfl rfl rfl (za5 (zak ⟨rfl, fun rd => ?_⟩)))
   rw [w1, zwl]
   have hvm : vs.map (AV.int .i64) ++ [[AV.int .i64 (i : Nat)]].flatten = (vs ++ [(i : Int)]).map (AV.int .i64) := by rw [y16]; rfl
   rw [hvm]
   have hly := hC'.ly
   have hlw := hC'.lw
   have hnM : ¬ M (H'.next + 1) := fun h => by have := hloc.lt s' H' hI' _ h; omega
   have hKn : Keep (fun _ => False) H' ⟨(H'.next + 1, H'.clk + 1, .cells ((vs ++ [(i : Int)]).map (AV.int .i64))) :: (H'.next, H'.clk, .cells [.int .i64 (i : Nat)]) :: H'.heap, H'.next + 1 + 1, H'.clk + 1 + 1⟩ := zqh (by omega)
   have hft := zxj hloc ih (vs ++ [(i : Int)]) (i + 1) (H'.next + 1) (H'.clk + 1) ⟨(H'.next + 1, H'.clk + 1, .cells ((vs ++ [(i : Int)]).map (AV.int .i64))) :: (H'.next, H'.clk, .cells [.int .i64 (i : Nat)]) :: H'.heap, H'.next + 1 + 1, H'.clk + 1 + 1⟩ s' (by omega) (by omega) (hC'.keep hKn (fun h => h) fun h => h)
    zaq (y0m _) hnM (by omega) (by omega) (hloc.of s' H' _ hI' hKn.next fun j hj => hKn.look j (fun h => h) (hloc.lt s' H' hI' j hj)) hal1
   rw [hin] at hft
   refine AnyF.one 7 (by decide) (af_ct _ rfl rfl rfl rfl (zmy (by rw [hlv] at hft; exact hft)) (fun _ _ _ _ h => absurd h y0i) fun v H1 hF => ?_)
   obtain ⟨hk1, hm⟩ := hF
   have hk2 : Keep (fun j => M j) H' H1 := ⟨y0s hKn.next hk1.next, y0s hKn.clk hk1.clk, fun j hj hj2 => (hk1.look j (fun h => h.elim hj fun e => by omega) (by show j < H'.next + 1 + 1; omega)).trans (hKn.look j (fun h => h) hj2)⟩
   have hlb3 : Am.look lb H1.heap = some (sl, .cells (zjz vs X')) := (hk2.look lb hM hlt').trans hlb'
   have hk2 : Keep (fun j => M j ∨ j = lb) H' H1 := Keep.mono hk2 fun j h => .inl h
   cases o with
   | inr t =>
    obtain ⟨rfl, hJ⟩ := hm
    refine AnyF.one 8 (by decide) (zh5 rfl rfl (g_un rfl rfl) (AnyF.fin (by decide) (Um.ok ?_)))
    repeat (first | refine za7 ?_ | refine za0 rfl ?_ | refine za5 ?_ | refine za4 ?_ | refine zc8 rfl ?_ | refine zao ?_ | refine za9 ?_ | refine zaj ?_ | refine za3 rfl ?_)
    refine zer ?_
    repeat (first | refine za9 ?_ | refine zaj ?_)
    exact zak ⟨.inr rfl, _, rfl, ⟨hKp.trans hk2, by rw [hfold]; exact ⟨rfl, hJ⟩⟩, _, hXl, hlb3⟩
   | inl s2 =>
    obtain ⟨rfl, hI2⟩ := hm
    refine AnyF.one 8 (by decide) (zh5 rfl rfl (g_un rfl rfl) (AnyF.fin (by decide) (Um.ok ?_)))
    repeat (first | refine za0 rfl ?_ | refine za5 ?_ | refine za4 ?_ | refine zbl ?_ | refine zaf ?_ | refine zc7 rfl ?_ | refine za3 rfl ?_ | refine zb1 (op := .add) rfl rfl rfl ?_)
    rw [w1]
    exact zay (show N - (i + 1) < N - i by omega) (zaa (.cons rfl (.cons rfl (.cons rfl (.cons rfl (.cons rfl (.cons rfl .nil))))))) ⟨i + 1, s2, H1, _, rfl, by omega, hX, hXl, hfold, hal2 s2 rfl, hI2, hKp.trans hk2, hlb3, rfl⟩
 ·have h : ¬ (i : Int) ≤ (N : Int) - ((r + 1 : Nat) : Int) := of_decide_eq_false h
  rw [ascR_nil (n := N) (k := r) (i := i) (by omega)] at hfold
  repeat (first | refine za5 ?_ | refine za4 ?_ | refine zc7 rfl ?_ | refine zbg ?_ | refine zac ?_)
  refine zdb ?_
  repeat (first | refine za7 ?_ | refine za0 rfl ?_ | refine za5 ?_ | refine za4 ?_ | refine zao ?_ | refine zbf ?_ | refine za3 rfl ?_)
  exact zak ⟨.inr rfl, _, rfl, ⟨hKp, by rw [hfold]; exact ⟨rfl, hI'⟩⟩, X', hXl, hlb'⟩
end
theorem zkx {n : Nat} : ∀ {k f : Nat} {c : List Int}, c ∈ asc n k f → c.length = k ∧ (∀ z ∈ c, (f : Int) ≤ z ∧ z < n)
 | 0, f, c, h => by
  obtain rfl := y0e.1 h
  exact ⟨rfl, fun z hz => absurd hz y0i⟩
 | k + 1, f, c, h => by
  rw [asc, y1s] at h
  obtain ⟨i, hi, h⟩ := h
  rw [y2i] at hi
  obtain ⟨d, hd, rfl⟩ := y0o.1 h
  obtain ⟨h1, h2⟩ := zkx hd
  refine ⟨by rw [y0l, h1], fun z hz => ?_⟩
  rcases y0j.1 hz with rfl | hz
  ·omega
  ·have := h2 z hz; omega
theorem zps {α σ τ : Type} {step : σ → α → σ ⊕ τ} {Pr : α → Prop} : ∀ (l : List α) (s : σ), (∀ x ∈ l, Pr x) → zfb step (fun _ x => Pr x) l s
 | [], _, _ => trivial
 | x :: l, s, h => ⟨h x (y05 ..), fun s' _ => zps l s' fun y hy => h y (y04 _ hy)⟩
section
variable {σ τ : Type} {step : σ → List Int → σ ⊕ τ} {M : Nat → Prop} {I : σ → HS → Prop} {J : τ → HS → Prop}
theorem zri {Pr : σ → List Int → Prop} {w0 : World} {N0 K N id sp yb sy wb sw : Nat} (hK : K ≤ 1000000) (hN : N ≤ 1000000) (hloc : Local M I) (ny : ¬ M yb) (nw : ¬ M wb) (hy : ∀ s l H, Pr s l → I s H → CT Try.prog w0 N0 (.yield id sp) [vsI l] H (Left M I J H (step s l))) : ∀ r, Walk step M I J Pr w0 N0 K N id sp yb sy wb sw r
 | 0 => zxm hK hloc ny nw hy
 | r + 1 => zxl hK hN hloc ny nw (zri hK hN hloc ny nw hy r)
set_option maxHeartbeats 1000000 in
theorem zxi {Pr : σ → List Int → Prop} {w0 : World} {N0 K N id sp yb sy wb sw : Nat} (hloc : Local M I) (h : Walk step M I J Pr w0 N0 K N id sp yb sy wb sw K) (H : HS) (s : σ) (h4 : CW K N id sp yb sy wb sw H) (h10 : I s H) (h11 : zfb step Pr (asc N K 0) s) :
  FT Try.prog w0 N0 61 [.nils, .int .i64 0, .vptr [.int .i64 (K : Nat)], .mptr yb sy 0, .vptr [.int .i64 (N : Nat)], .mptr wb sw 0] H (Left M I J H (zcs step (asc N K 0) s)) := by
 refine zfy env0_ok fn61 [(0, .nils), (1, .int .i64 0), (2, .vptr [.int .i64 (K : Nat)]), (3, .mptr yb sy 0), (4, .vptr [.int .i64 (N : Nat)]), (5, .mptr wb sw 0)] (by show 6 ≤ 38; decide) rfl ?_
 refine z_grow 0 1 rfl ?_
 refine z_capx 0 rfl zaq rfl fun c hc => ?_
 refine zo1 (zaa (l' := [(0, .ms H.next H.clk 1 0 0 (some c)), (1, .int .i64 ((0 : Nat) : Int)), (2, .vptr [.int .i64 (K : Nat)]), (3, .mptr yb sy 0), (4, .vptr [.int .i64 (N : Nat)]), (5, .mptr wb sw 0)]) (.cons rfl (.cons rfl (.cons rfl (.cons rfl (.cons rfl (.cons rfl .nil))))))) ?_
 rw [zqt]
 have hb : beh [] (asc N K 0) = asc N K 0 := by unfold beh; simp
 have hKn : Keep (fun _ => False) H ⟨(H.next, H.clk, .cells (zjz [] (List.replicate (c - 0) .top))) :: H.heap, H.next + 1, H.clk + 1⟩ := Keep.new _ _ _
 have hz := h [] 0 c (List.replicate (c - 0) .top) H.next H.clk ⟨(H.next, H.clk, .cells (zjz [] (List.replicate (c - 0) .top))) :: H.heap, H.next + 1, H.clk + 1⟩ s (y1u _) (y12 _) (by rw [y15]; simp) (h4.keep hKn (fun h => h) fun h => h) zaq (y0m _)
  (fun h => Nat.lt_irrefl _ (hloc.lt s H h10 _ h)) (fun e => by have := h4.ly; omega) (fun e => by have := h4.lw; omega) (hloc.new h10 _ _) (by rw [hb]; exact h11)
 rw [hb] at hz
 refine z_mono hz fun e S' ⟨he, v, hv, ⟨hk, hm⟩, _⟩ => ⟨he, v, hv, ⟨y0s (y23 _) hk.next, y0s (y23 _) hk.clk, fun i hi hi2 => (hk.look i (fun h => h.elim hi fun e => by omega) (by show i < H.next + 1; omega)).trans (zdc hi2)⟩, hm⟩
set_option maxHeartbeats 1000000 in
theorem range67 {Pr : σ → List Int → Prop} {w0 : World} {N0 K N id sp : Nat} (hK : K ≤ 1000000) (hN : N ≤ 1000000) (hloc : Local M I) (hy : ∀ s l H, Pr s l → I s H → CT Try.prog w0 N0 (.yield id sp) [vsI l] H (Left M I J H (step s l))) (H : HS) (s : σ) (hI : I s H) (hal : zfb step Pr (asc N K 0) s) :
  FT Try.prog w0 N0 60 [.yield id sp, .vptr [.int .i64 (K : Nat)], .vptr [.int .i64 (N : Nat)]] H fun _ H' => Keep M H H' ∧ match zcs step (asc N K 0) s with
   | .inl s' => I s' H'
   | .inr t => J t H' := by
 have hlt := hloc.lt s H hI
 refine zfy env0_ok fn60 [(0, .yield id sp), (1, .vptr [.int .i64 (K : Nat)]), (2, .vptr [.int .i64 (N : Nat)])] (by show 3 ≤ 8; decide) rfl ?_
 unfold ic60
 refine zsr rfl (zcz rfl rfl (onr rfl (zba (onr rfl (ze5 rfl rfl ?_)))))
 refine zb3 rfl rfl rfl rfl zaq rfl rfl ?_
 rw [zqt]
 refine onR rfl ?_
 refine zlx rfl zaq (y0m _) rfl ?_
 have ny : ¬ M H.next := fun h => Nat.lt_irrefl _ (hlt _ h)
 have nw : ¬ M (H.next + 1) := fun h => by have := hlt _ h; omega
 have hW := zri (step := step) (J := J) (sy := H.clk) (sw := H.clk + 1) hK hN hloc ny nw hy K
 have hC : CW K N id sp H.next H.clk (H.next + 1) (H.clk + 1) ⟨(H.next + 1, H.clk + 1, .cells [.fn 61 [] [.vptr [.int .i64 (K : Nat)], .mptr H.next H.clk 0, .vptr [.int .i64 (N : Nat)], .mptr (H.next + 1) (H.clk + 1) 0]]) :: (H.next, H.clk, .cells [.yield id sp]) :: H.heap, H.next + 1 + 1, H.clk + 1 + 1⟩ :=
  ⟨(zdc (y0m _)).trans zaq, zaq, by show H.next < H.next + 1 + 1; omega, y0m _⟩
 have hK2 : Keep (fun _ => False) H ⟨(H.next + 1, H.clk + 1, .cells [.fn 61 [] [.vptr [.int .i64 (K : Nat)], .mptr H.next H.clk 0, .vptr [.int .i64 (N : Nat)], .mptr (H.next + 1) (H.clk + 1) 0]]) :: (H.next, H.clk, .cells [.yield id sp]) :: H.heap, H.next + 1 + 1, H.clk + 1 + 1⟩ := zqh (by omega)
 have hft := zxi hloc hW _ s hC (hloc.of s H _ hI hK2.next fun j hj => hK2.look j (fun h => h) (hlt j hj)) hal
 refine o_ct _ rfl rfl (zmy hft) (fun _ _ _ _ h => absurd h y0i) fun v H1 ⟨hk, hm⟩ => ?_
 refine za5 (zak ⟨.inl rfl, _, rfl, ⟨y0s hK2.next hk.next, y0s hK2.clk hk.clk, fun i hi hi2 => (hk.look i hi (by show i < H.next + 1 + 1; omega)).trans (hK2.look i (fun h => h) hi2)⟩, ?_⟩)
 cases hf : zcs step (asc N K 0) s with
 | inr t => rw [hf] at hm; exact hm.2
 | inl s' => rw [hf] at hm; exact hm.2
end
section
variable {P : Program} {w0 : World} {N0 : Nat} {k : List Fr} {Q : Exit → AS → Prop} {pf : Kn} {ios : List Opr} {n nx ck : Nat} {mk : List (Nat × Nat)} {md : Md} {l : List (Nat × AV)} {hp : List (Nat × Nat × AObj)}
theorem o_mks {d sz bytes : Nat} {z : List AV} {a c : Arg} {lv cv : Int} {kd kc : IntKind} (ha : zaw a l = some (.int kd lv)) (hc : zaw c l = some (.int kc cv)) (hb : 0 ≤ lv ∧ lv ≤ cv ∧ cv ≤ 1048576 ∧ bytes ≤ 16777216)
  (go : Om P w0 N0 md pf ios (st n ((d, .ms nx ck sz 0 lv.toNat (some cv.toNat)) :: l) ((nx, ck, .cells (zf9 cv.toNat z)) :: hp) (nx + 1) (ck + 1) mk) k Q) (hx : Ops pf (st n l hp nx ck mk) (.mkslice sz bytes z a c) := by exact trivial) :
  Om P w0 N0 md pf (⟨some d, .mkslice sz bytes z a c, none⟩ :: ios) (st n l hp nx ck mk) k Q :=
 zdl (by simp only [iop, zal, ha, hc, if_pos hb]; rfl) go hx
theorem zq {ic : IC} {q : Nat} (hq : mk.length = q) (live : zfz) (fz : List (Nat × Nat × List AV)) (l' : List (Nat × AV)) (hok : okW (fz.map (·.1)) live = true) (hf : RnF hp fz) (h1 : RnH live fz hp live) (h2 : RnA live fz l l') (h : Zm P w0 N0 none ic (st n l' (zew 0 live ++ zf6 live.length q) (q + live.length) 1 (zho live.length q)) k Q) : Zm P w0 N0 none ic (st n l hp nx ck mk) k Q := by
 subst hq
 exact zxr live fz l' hok hf h1 h2 h
theorem sq {l' : List (Nat × AV)} {hp' : List (Nat × Nat × AObj)} {nx' q : Nat} {mk' : List (Nat × Nat)} (hq : mk.length = q) (live : zfz) (fz : List (Nat × Nat × List AV)) (hh : hp' = zew 0 live ++ zf6 live.length q) (hx : nx' = q + live.length) (hm : mk' = zho live.length q) (hok : okW (fz.map (·.1)) live = true) (hf : RnF hp fz) (h1 : RnH live fz hp live) (h2 : RnA live fz l l') : Sub0 w0 N0 (st n l hp nx ck mk) (st n l' hp' nx' 1 mk') := by
 subst hq hm
 exact zgz live fz hh hx hok hf h1 h2
end
def zbr : IC → List (Code × Code)
 | .seq a b => zbr a ++ zbr b
 | .cond _ a b => zbr a ++ zbr b
 | .block _ b => zbr b
 | .loop b => zbr b
 | .rangeFunc _ _ ca cb _ _ => [(ca, cb)]
 | _ => []
theorem ze8 {S : AS} {id sp off : Nat} {v : AV} {cs ws : List AV} (h : Am.look id S.heap = some (sp, .cells cs)) (hlt : id < S.next) (hd : cs.drop off = v :: ws) : S.deref (.mptr id sp off) = some (v :: ws) := by
 simp only [AS.deref, h]
 rw [if_pos ⟨trivial, hlt⟩, hd]
theorem zhe {S : AS} {a b : Nat} {pa pb va vb : AV} {ra rb : List AV} (h1 : S.get a = some pa) (d1 : S.deref pa = some (va :: ra)) (h2 : S.get b = some pb) (d2 : S.deref pb = some (vb :: rb)) :
  S.res [.cell a none, .cell b none] = some (.tup [va, vb]) := by
 simp [AS.res, AS.resL, zp5, h1, h2, d1, d2]
theorem zcx : ∀ (ms : List (Nat × Nat)) (hp : List (Nat × Nat × AObj)) (k : Nat), (∀ z ∈ ms, z.1 ≠ k) → Am.look k (zff ms hp) = Am.look k hp
 | [], _, _, _ => rfl
 | z :: ms, hp, k, h => by
  rw [zhl, zcx ms _ k fun y hy => h y (y04 _ hy), zag, if_neg (h z (y05 ..))]
-- pneumatic/setcover.limited
def ic36 : IC := .seq (.region [oM 1 (.box (.t 0)),
  oM 2 (.mov (.c (.int .i64 0)))] none)
 (.seq (.seq (.region [oL 4 2 1,
  oM 5 (.call (.c (.fn 59 [] [])) [(.t 4)]),
  oT 3 5] none)
 (.seq (.region [oT 6 3,
  oM 7 (.bin .neq (.t 6) (.c (.int .i64 0)))] none)
 (.cond (.t 7) (.seq (.region [oT 8 3,
  oT 2 8] none)
 (.ret))
 (.skip))))
 (.seq (.seq (.region [oF 9 1 1,
  oN 10 9,
  oM 11 (.len false (.t 10)),
  oM 12 (.bin .gtr (.t 11) (.c (.int .i64 16)))] none)
 (.cond (.t 12) (.seq (.region [oM 2 (.mov (.c (.int .i64 12)))] none)
 (.ret))
 (.skip)))
 (.seq (.region [oM 2 (.mov (.c (.int .i64 0)))] none)
 (.ret))))
theorem fn36 : env0.fn 36 = some ⟨13, ic36, [.t 2]⟩ := by kernel_rfl
noncomputable def zk3 : Code := match env0.fn 14 with
 | some i => ((zbr i.ic)[0]?.getD (.skip, .skip)).1
 | none => .skip
noncomputable def zk4 : Code := match env0.fn 14 with
 | some i => ((zbr i.ic)[0]?.getD (.skip, .skip)).2
 | none => .skip
def zoa : IC := .region [oT 6 24] none
def zwb : IC := .block 3 (.seq (.region [oL 25 2 1,
  oT 26 6,
  oM 27 (.call (.c (.fn 38 [] [])) [(.t 25), (.t 26)]),
  oF 28 0 1,
  oN 29 28,
  oM 30 (.call (.c (.fn 39 [] [])) [(.t 29)]),
  oM 31 (.bin .eql (.t 27) (.t 30))] (some [[], [], [0, 1], [], [3], [4, 2], [2, 5]]))
 (.cond (.t 31) (.seq (.region [oT 32 6,
  ⟨none, .store 1 (.t 2) (.t 32), none⟩,
  ⟨none, .store 1 (.t 3) (.c (.int .i64 0)), none⟩] none)
 (.ret))
 (.skip)))
noncomputable def b14_0 : IC := .seq (.region [oM 17 (.bin .lss (.t 16) (.t 15))] none)
 (.seq (.cond (.t 17) (.skip)
 (.exit 0))
 (.seq (.block 1 (.seq (.region [oT 18 16,
  oT 5 18] none)
 (.seq (.region [oF 19 1 1,
  oN 20 19,
  oM 21 (.len false (.t 20)),
  oT 22 5,
  oM 23 (.call (.c (.fn 37 [] [])) [(.t 21), (.t 22)])] none)
 (.block 2 (.rangeFunc (.t 23) [24] zk3 zk4 zoa zwb)))))
 (.region [oM 33 (.bin .add (.t 16) (.c (.int .i64 1))),
  oT 16 33] none)))
-- pneumatic/setcover.Fewest
noncomputable def ic14 : IC := .seq (.region [oM 1 (.box (.t 0)),
  oM 2 (.alloc [.nils]),
  oM 3 (.alloc [.int .i64 0])] none)
 (.seq (.seq (.region [oL 7 2 1,
  oM 8 (.call (.c (.fn 36 [] [])) [(.t 7)]),
  oT 4 8] none)
 (.seq (.region [oT 9 4,
  oM 10 (.bin .neq (.t 9) (.c (.int .i64 0)))] none)
 (.cond (.t 10) (.seq (.region [oT 11 4,
  ⟨none, .store 1 (.t 2) (.c (.nils)), none⟩,
  ⟨none, .store 1 (.t 3) (.t 11), none⟩] none)
 (.ret))
 (.skip))))
 (.seq (.seq (.region [oF 12 1 1,
  oN 13 12,
  oM 14 (.len false (.t 13)),
  oM 15 (.bin .add (.t 14) (.c (.int .i64 1))),
  oM 16 (.mov (.c (.int .i64 0)))] none)
 (.block 0 (.loop b14_0)))
 (.seq (.region [⟨none, .store 1 (.t 2) (.c (.nils)), none⟩,
  ⟨none, .store 1 (.t 3) (.c (.int .i64 6)), none⟩] none)
 (.ret))))
theorem fn14 : env0.fn 14 = some ⟨34, ic14, [.cell 2 none, .cell 3 none]⟩ := by kernel_rfl
def limE (n : Int) (s : List (BitVec 64)) : Int := if chkF n s = 0 then (if s.length > 16 then 12 else 0) else chkF n s
theorem zvn (n : Int) (s : List (BitVec 64)) : PF Try.prog 36 [cF n s] (.int .i64 (limE n s)) := by
 have pC := check37 n s
 have hcl := zh7 s
 refine zb0 env0_ok fn36 [(0, cF n s)] (by show 1 ≤ 13; decide) rfl fun w0 N0 => ?_
 unfold ic36 limE
 refine zsr rfl (zcz (cs := [.int .i64 n, .vs (cUs s)]) rfl rfl (za3 rfl (onu ?_)))
 refine zbm [] [(0, 0, [.int .i64 n, .vs (cUs s)])] [(1, .vptr [.int .i64 n, .vs (cUs s)])] rfl (.cons rfl rfl .nil) .nil (.cons rfl (.fptr rfl rfl) .nil) ?_
 repeat (first | refine za7 ?_ | refine za0 rfl ?_ | refine zb2 rfl rfl rfl rfl ?_)
 refine zb9 rfl rfl pC noC ?_
 by_cases hc : chkF n s = 0
 ·rw [if_pos hc, hc]
  repeat (first | refine za7 ?_ | refine za0 rfl ?_ | refine za5 ?_ | refine za4 ?_ | refine zaf ?_ | refine zc7 rfl ?_ | refine za3 rfl ?_ | refine zad rfl rfl ?_ | refine zai rfl rfl rfl ?_ | refine zbo rfl rfl ?_ | refine zd5 rfl rfl rfl ?_)
  refine zax rfl rfl rfl (fun h => ?_) fun h => ?_
  ·have h : (((cUs s).length : Nat) : Int) > 16 := of_decide_eq_true h
   rw [if_pos (by omega)]
   repeat (first | refine za7 ?_ | refine za0 rfl ?_ | refine za5 ?_ | refine za4 ?_ | refine zc8 rfl ?_ | refine zao ?_ | refine za9 ?_ | refine za3 rfl ?_)
   exact zak ⟨.inr rfl, _, rfl, rfl⟩
  ·have h : ¬ (((cUs s).length : Nat) : Int) > 16 := of_decide_eq_false h
   rw [if_neg (by omega)]
   repeat (first | refine za7 ?_ | refine za0 rfl ?_ | refine za5 ?_ | refine za4 ?_ | refine zaf ?_ | refine zc7 rfl ?_ | refine zao ?_ | refine za3 rfl ?_)
   exact zak ⟨.inr rfl, _, rfl, rfl⟩
 ·rw [if_neg hc]
  repeat (first | refine za7 ?_ | refine za0 rfl ?_ | refine za5 ?_ | refine za4 ?_ | refine za3 rfl ?_)
  refine zax rfl rfl rfl (fun h => ?_) fun h => absurd (by simpa using h) hc
  repeat (first | refine za7 ?_ | refine za0 rfl ?_ | refine za5 ?_ | refine za4 ?_ | refine zc8 rfl ?_ | refine zao ?_ | refine za9 ?_ | refine za3 rfl ?_)
  exact zak ⟨.inr rfl, _, rfl, rfl⟩
theorem lim_ok {n : Int} {s : List (BitVec 64)} (h : limE n s = 0) : chkF n s = 0 ∧ s.length ≤ 16 := by
 unfold limE at h
 split at h
 ·rename_i h1
  split at h
  ·exact absurd h (by decide)
  ·exact ⟨h1, by omega⟩
 ·rename_i hc; exact absurd h hc
def zx5 (n : Int) (s : List (BitVec 64)) (_ : Unit) (c : List Int) : Unit ⊕ List Int := if covB n s c = true then .inr c else .inl ()
theorem zk7 (n : Int) (s : List (BitVec 64)) : ∀ L : List (List Int), zcs (zx5 n s) L () = match L.find? (covB n s) with | some c => .inr c | none => .inl ()
 | [] => rfl
 | c :: L => by
  rw [zcs, List.find?_cons]
  unfold zx5
  cases covB n s c with
  | true => rfl
  | false => exact zk7 n s L
def zo9 (N k m : Nat) : List (List Int) := (List.range' k m).flatMap fun j => asc N j 0
theorem zte (N k m : Nat) : zo9 N k (m + 1) = asc N k 0 ++ zo9 N (k + 1) m := by
 unfold zo9
 rw [List.range'_succ, List.flatMap_cons]
def fewO (n : Int) (s : List (BitVec 64)) : Option (List Int) := (zo9 s.length 0 (s.length + 1)).find? (covB n s)
def fewV (n : Int) (s : List (BitVec 64)) : AV := if limE n s = 0 then (match fewO n s with | some c => .tup [vsI c, .int .i64 0] | none => .tup [.vs [], .int .i64 6]) else .tup [.vs [], .int .i64 (limE n s)]
structure I24 (D : Nat) (ltm : List (Nat × AV)) (_ : Unit) (H : HS) : Prop where
 nx : D + 2 ≤ H.next
 h4 : Am.look (D + 1) H.heap = some (2, .loop .ready none 34 (zf8 ltm) [24] zk3 zk4 (D, 1))
 h3 : Am.look D H.heap = some (1, .deferred)
 r0 : Am.look 0 H.heap = some (0, .cells [.nils])
 r1 : Am.look 1 H.heap = some (0, .cells [.int .i64 0])
structure J24 (D : Nat) (p : List Int) (H : HS) : Prop where
 nx : D + 2 ≤ H.next
 h4 : ∃ tm, Am.look (D + 1) H.heap = some (2, .loop .done (some .ret) 34 tm [24] zk3 zk4 (D, 1))
 h3 : Am.look D H.heap = some (1, .deferred)
 r0 : Am.look 0 H.heap = some (0, .cells [vsI p])
 r1 : Am.look 1 H.heap = some (0, .cells [.int .i64 0])
def M24 (D : Nat) (i : Nat) : Prop := i < 2 ∨ i = D ∨ i = D + 1
theorem local24 {D : Nat} (hD : 2 ≤ D) (ltm : List (Nat × AV)) : Local (M24 D) (I24 D ltm) :=
 ⟨fun s H h i hi => by have := h.nx; rcases hi with hi | hi | hi <;> omega, fun s H H' h hn hl =>
  ⟨y0s h.nx hn, (hl (D + 1) (.inr (.inr rfl))).trans h.h4, (hl D (.inr (.inl rfl))).trans h.h3, (hl 0 (.inl (by decide))).trans h.r0, (hl 1 (.inl (by decide))).trans h.r1⟩⟩
def l24 (n : Int) (s : List (BitVec 64)) (k : Nat) : List (Nat × AV) := [(1, .vptr [.int .i64 n, .vs (cUs s)]), (2, .mptr 0 0 0), (3, .mptr 1 0 0), (15, .int .i64 ((s.length + 1 : Nat) : Int)), (16, .int .i64 (k : Nat)), (23, .fn 60 [] [.vptr [.int .i64 (k : Nat)], .vptr [.int .i64 (s.length : Nat)]])]
set_option maxHeartbeats 2000000 in
theorem yield24 {w0 : World} {N0 D : Nat} (hD : 2 ≤ D) {n : Int} {s : List (BitVec 64)} (hc : chkF n s = 0) (k : Nat) (ha : Com Try.prog zk3 zoa) (hb : Com Try.prog zk4 zwb) (u : Unit) (p : List Int) (H : HS) (hp : p.length ≤ 1000000 ∧ ∀ z ∈ p, 0 ≤ z ∧ z < s.length) (h : I24 D (l24 n s k) u H) :
  CT Try.prog w0 N0 (.yield (D + 1) 2) [vsI p] H (Left (M24 D) (I24 D (l24 n s k)) (J24 D) H (zx5 n s u p)) := by
 obtain ⟨nx, h4, h3, r0, r1⟩ := h
 obtain ⟨n0, n1, s1, _⟩ := zit hc
 have pU := union57 n s p hp.1 hp.2
 have pA := all43 n0 n1
 refine zq6 (l0 := (24, vsI p) :: l24 n s k) h4 ha hb rfl (by decide) rfl ?_
 unfold zoa
 repeat (first | refine za0 rfl ?_ | refine za5 ?_ | refine za3 rfl ?_)
 refine zak ⟨rfl, _, rfl, ?_⟩
 unfold zwb l24 zx5
 repeat (first | refine za7 ?_ | refine zab ?_)
 refine zpm env0_ok [(38, [cF n s, vsI p], cU (uni s p)), (39, [.int .i64 n], cU (allB n))] (fun x hx => by
  rcases y0j.1 hx with rfl | hx
  ·exact pU
  obtain rfl := y0e.1 hx
  exact pA) (fun f => Nat.beq f 38 || Nat.beq f 39) rfl rfl rfl ?_
 repeat (first | refine za3 rfl ?_ | refine zb2 rfl rfl rfl rfl ?_)
 refine zb9 rfl rfl ze0 noC ?_
 repeat (first | refine zad rfl rfl ?_ | refine zai rfl rfl rfl ?_)
 refine zb9 rfl rfl (zs8 (by decide) ze0) noC ?_
 refine zax rfl rfl (bin_eqlU _ _) (fun h6 => ?_) fun h6 => ?_
 ·rw [show covB n s p = true from h6, if_pos rfl]
  repeat (first | refine za7 ?_ | refine za0 rfl ?_ | refine za5 ?_ | refine za4 ?_ | refine zc8 rfl ?_ | refine za3 rfl ?_)
  refine zb3 (sp := 0) rfl rfl rfl rfl (by (repeat (first | rw [za1, if_pos rfl] | rw [za1, if_neg (by omega)] | rw [zag, if_neg (by omega)])); all_goals (first | rfl | assumption)) rfl rfl ?_
  refine zb3 (sp := 0) rfl rfl rfl rfl (by (repeat (first | rw [za1, if_pos rfl] | rw [za1, if_neg (by omega)] | rw [zag, if_neg (by omega)])); all_goals (first | rfl | assumption)) rfl rfl ?_
  repeat (first | refine za5 ?_ | refine za4 ?_ | refine zao ?_ | refine zaj ?_)
  refine zak ⟨34, zf8 (l24 n s k), [24], zk3, zk4, (D, 1), ?_, some .ret, rfl, ⟨y0b _, y0b _, fun j hj _ => ?_⟩, rfl, ⟨nx, ⟨zf8 (l24 n s k), ?_⟩, ?_, ?_, ?_⟩⟩
  ·show Am.look (D + 1) (zaz 1 _ (zaz 0 _ (zaz (D + 1) _ H.heap))) = _
   exact (by (repeat (first | rw [za1, if_pos rfl] | rw [za1, if_neg (by omega)] | rw [zag, if_neg (by omega)])); all_goals (first | rfl | assumption))
  ·show Am.look j (zaz (D + 1) _ (zaz 1 _ (zaz 0 _ (zaz (D + 1) _ H.heap)))) = _
   have h1 : D + 1 ≠ j := fun e => hj (.inr (.inr e.symm))
   have h2 : 2 ≤ j := Nat.le_of_not_lt fun e => hj (.inl e)
   rw [za1, if_neg h1, za1, if_neg (by omega), za1, if_neg (by omega), za1, if_neg h1]
  ·show Am.look (D + 1) (zaz (D + 1) _ _) = _
   rw [za1, if_pos rfl]; rfl
  ·show Am.look D (zaz (D + 1) _ (zaz 1 _ (zaz 0 _ (zaz (D + 1) _ H.heap)))) = _
   exact (by (repeat (first | rw [za1, if_pos rfl] | rw [za1, if_neg (by omega)] | rw [zag, if_neg (by omega)])); all_goals (first | rfl | assumption))
  ·show Am.look 0 (zaz (D + 1) _ (zaz 1 _ (zaz 0 _ (zaz (D + 1) _ H.heap)))) = _
   exact (by (repeat (first | rw [za1, if_pos rfl] | rw [za1, if_neg (by omega)] | rw [zag, if_neg (by omega)])); all_goals (first | rfl | assumption))
  ·show Am.look 1 (zaz (D + 1) _ (zaz 1 _ (zaz 0 _ (zaz (D + 1) _ H.heap)))) = _
   exact (by (repeat (first | rw [za1, if_pos rfl] | rw [za1, if_neg (by omega)] | rw [zag, if_neg (by omega)])); all_goals (first | rfl | assumption))
 ·rw [show covB n s p = false from h6, if_neg (by decide)]
  repeat (first | refine za5 ?_ | refine za4 ?_ | refine zbl ?_ | refine zaf ?_ | refine zc7 rfl ?_)
  refine zak ⟨34, zf8 (l24 n s k), [24], zk3, zk4, (D, 1), ?_, none, rfl, ⟨y0b _, y0b _, fun j hj _ => ?_⟩, rfl, ⟨nx, ?_, ?_, ?_, ?_⟩⟩
  ·show Am.look (D + 1) (zaz (D + 1) _ H.heap) = _
   exact (by (repeat (first | rw [za1, if_pos rfl] | rw [za1, if_neg (by omega)] | rw [zag, if_neg (by omega)])); all_goals (first | rfl | assumption))
  ·show Am.look j (zaz (D + 1) _ (zaz (D + 1) _ H.heap)) = _
   rw [za1, if_neg (fun e => hj (.inr (.inr e.symm))), za1, if_neg (fun e => hj (.inr (.inr e.symm)))]
  ·show Am.look (D + 1) (zaz (D + 1) _ _) = _
   rw [za1, if_pos rfl]; rfl
  ·show Am.look D (zaz (D + 1) _ (zaz (D + 1) _ H.heap)) = _
   exact (by (repeat (first | rw [za1, if_pos rfl] | rw [za1, if_neg (by omega)] | rw [zag, if_neg (by omega)])); all_goals (first | rfl | assumption))
  ·show Am.look 0 (zaz (D + 1) _ (zaz (D + 1) _ H.heap)) = _
   exact (by (repeat (first | rw [za1, if_pos rfl] | rw [za1, if_neg (by omega)] | rw [zag, if_neg (by omega)])); all_goals (first | rfl | assumption))
  ·show Am.look 1 (zaz (D + 1) _ (zaz (D + 1) _ H.heap)) = _
   exact (by (repeat (first | rw [za1, if_pos rfl] | rw [za1, if_neg (by omega)] | rw [zag, if_neg (by omega)])); all_goals (first | rfl | assumption))
theorem ascM_pr {n : Int} {s : List (BitVec 64)} (h64 : s.length ≤ 64) {k : Nat} (hk : k ≤ s.length) : zfb (zx5 n s) (fun _ (p : List Int) => p.length ≤ 1000000 ∧ ∀ z ∈ p, 0 ≤ z ∧ z < s.length) (asc s.length k 0) () :=
 zps (Pr := fun (p : List Int) => p.length ≤ 1000000 ∧ ∀ z ∈ p, 0 ≤ z ∧ z < s.length) _ _ fun p hp => by
  obtain ⟨h1, h2⟩ := zkx hp
  exact ⟨by omega, fun z hz => by have := h2 z hz; omega⟩
set_option maxHeartbeats 4000000 in
theorem fewest24 (n : Int) (s : List (BitVec 64)) : PF Try.prog 14 [cF n s] (fewV n s) := by
 have pL := zvn n s
 have hcl := zh7 s
 refine zb0 env0_ok fn14 [(0, cF n s)] (by show 1 ≤ 34; decide) rfl fun w0 N0 => ?_
 unfold ic14 fewV
 refine zsr rfl (zcz (cs := [.int .i64 n, .vs (cUs s)]) rfl rfl (zba (zba (onu ?_))))
 refine zbm [(some (1, 1), [.nils]), (some (2, 2), [.int .i64 0])] [(0, 0, [.int .i64 n, .vs (cUs s)])] [(1, .vptr [.int .i64 n, .vs (cUs s)]), (2, .mptr 0 0 0), (3, .mptr 1 0 0)] rfl (.cons rfl rfl .nil) (.cons rfl (.keep rfl) (.cons rfl (.keep rfl) .nil)) (.cons rfl (.fptr rfl rfl) (.cons rfl (.mptr rfl) (.cons rfl (.mptr rfl) .nil))) ?_
 repeat (first | refine za7 ?_ | refine za0 rfl ?_ | refine zb2 rfl rfl rfl rfl ?_)
 refine zb9 rfl rfl pL noC ?_
 by_cases hl : limE n s = 0
 ·obtain ⟨hc, h16⟩ := lim_ok hl
  rw [if_pos hl, hl]
  repeat (first | refine za7 ?_ | refine za0 rfl ?_ | refine za5 ?_ | refine za4 ?_ | refine zab ?_ | refine zaf ?_ | refine zc7 rfl ?_ | refine za3 rfl ?_ | refine zad rfl rfl ?_ | refine zai rfl rfl rfl ?_ | refine zbo rfl rfl ?_ | refine zb1 (op := .add) rfl rfl rfl ?_ | refine zd5 rfl rfl rfl ?_)
  rw [hcl, zam s.length (by omega)]
  have key : ∀ k, k ≤ s.length + 1 → True := fun _ _ => trivial
  refine zbv (fun mm S => ∃ k q, mm = s.length + 1 - k ∧ k ≤ s.length + 1 ∧ fewO n s = (zo9 s.length k (s.length + 1 - k)).find? (covB n s) ∧
    S = st 34 [(1, .vptr [.int .i64 n, .vs (cUs s)]), (2, .mptr 0 0 0), (3, .mptr 1 0 0), (15, .int .i64 ((s.length + 1 : Nat) : Int)), (16, .int .i64 (k : Nat))] (zew 0 [(some (0, 0), [.nils]), (some (1, 0), [.int .i64 0])] ++ zf6 2 q) (q + 2) 1 (zho 2 q)) (s.length + 1)
   (sq rfl [(some (0, 0), [.nils]), (some (1, 0), [.int .i64 0])] [] rfl rfl rfl rfl .nil (.cons rfl (.keep rfl) (.cons rfl (.keep rfl) .nil)) (l' := [(1, .vptr [.int .i64 n, .vs (cUs s)]), (2, .mptr 0 0 0), (3, .mptr 1 0 0), (15, .int .i64 ((s.length + 1 : Nat) : Int)), (16, .int .i64 ((0 : Nat) : Int))]) (.cons rfl (.same rfl) (.cons rfl (.mptr rfl) (.cons rfl (.mptr rfl) (.cons rfl (.same rfl) (.cons rfl (.same rfl) .nil)))))) ⟨0, 0, rfl, y12 _, rfl, rfl⟩ ?_
  rintro mm S ⟨k, q, rfl, hk, hall, rfl⟩
  unfold b14_0
  repeat (first | refine za7 ?_ | refine za0 rfl ?_)
  refine zax rfl rfl rfl (fun h3 => ?_) fun h3 => ?_
  ·have hlt : k < s.length + 1 := y1i.1 (of_decide_eq_true h3)
   have hmk0 : zc6 (zho 2 q) (zew 0 [(some (0, 0), [.nils]), (some (1, 0), [.int .i64 0])] ++ zf6 2 q) := fun z hz => by
    obtain ⟨z1, z2, z3⟩ := zfs hz
    show Am.look z.1 ((0, _) :: (1, _) :: zf6 2 q) = _
    rw [za8, if_neg (by omega), za8, if_neg (by omega), zfp, if_pos ⟨z1, z2⟩, z3]
   have pF := ztw s.length k
   repeat (first | refine za7 ?_ | refine za0 rfl ?_ | refine za5 ?_ | refine za4 ?_ | refine zab ?_ | refine zaf ?_ | refine zc8 rfl ?_ | refine za3 rfl ?_ | refine zad rfl rfl ?_ | refine zai rfl rfl rfl ?_ | refine zbo rfl rfl ?_)
   refine zb9 rfl (by rw [hcl]; rfl) pF noC ?_ hmk0
   refine onu (zab ?_)
   refine zq (zf1 q 2) [(some (0, 0), [.nils]), (some (1, 0), [.int .i64 0])] [] (l24 n s k) rfl .nil (.cons rfl (.keep rfl) (.cons rfl (.keep rfl) .nil)) (.cons rfl (.same rfl) (.cons rfl (.mptr rfl) (.cons rfl (.mptr rfl) (.cons rfl (.same rfl) (.cons rfl (.same rfl) (.cons rfl (.same rfl) .nil)))))) ?_
   show Zm _ _ _ _ _ (st _ _ _ (q + 2) 1 (zho 2 q)) _ _
   refine zxq (.inl rfl) rfl fun hA hB => (range67 (K := k) (N := s.length) (by omega) (by omega) (local24 (D := q + 2) (by omega) (l24 n s k)) (fun u p H hp h => yield24 (D := q + 2) (by omega) hc k hA hB u p H hp h) ⟨_, _, _⟩ () ?_ (ascM_pr (by omega) (by omega))).mono fun v H2 hF => ?_
   ·refine ⟨y0b _, ?_, ?_, ?_, ?_⟩
    ·exact zaq
    ·exact (zdc (y0m _)).trans zaq
    ·show Am.look 0 ((q + 2 + 1, _) :: (q + 2, _) :: (0, _) :: _) = _
     exact (by (repeat (first | rw [za8, if_pos rfl] | rw [za8, if_neg (by omega)])); try rfl)
    ·show Am.look 1 ((q + 2 + 1, _) :: (q + 2, _) :: (0, _) :: (1, _) :: _) = _
     exact (by (repeat (first | rw [za8, if_pos rfl] | rw [za8, if_neg (by omega)])); try rfl)
   obtain ⟨hK, hF⟩ := hF
   rw [zk7] at hF
   have hold : ∀ z ∈ zho 2 q, Am.look z.1 H2.heap = some (z.2, .deferred) := fun z hz => by
    obtain ⟨z1, z2, z3⟩ := zfs hz
    refine (hK.look z.1 (fun h => by rcases h with h | h | h <;> omega) (by show z.1 < q + 2 + 2; omega)).trans ?_
    show Am.look z.1 ((q + 2 + 1, _) :: (q + 2, _) :: (0, _) :: (1, _) :: zf6 2 q) = _
    rw [za8, if_neg (by omega), za8, if_neg (by omega), za8, if_neg (by omega), za8, if_neg (by omega), zfp, if_pos ⟨z1, z2⟩, z3]
   have hmk : Am.look (q + 2) H2.heap = some (1, .deferred) → zc6 ((q + 2, 1) :: zho 2 q) (zd4 (q + 2 + 1) H2.heap) := fun h1 z hz => by
    rcases y0j.1 hz with rfl | hz
    ·rw [zag, if_neg (by omega)]; exact h1
    ·have := zfs hz
     rw [zag, if_neg (by omega)]; exact hold z hz
   rw [show s.length + 1 - k = (s.length - k) + 1 by omega, zte, List.find?_append] at hall
   cases hb : (asc s.length k 0).find? (covB n s) with
   | none =>
    rw [hb] at hF hall
    obtain ⟨nx, h4, h3, r0, r1⟩ := hF
    refine ⟨_, _, .normal, _, _, _, _, _, _, h4, by simp, rfl, hmk h3, ?_⟩
    refine zbl (zbl (za4 ?_))
    refine zq (q := q + 1) (by rw [y0l, zf1]) [(some (0, 0), [.nils]), (some (1, 0), [.int .i64 0])] [] [(1, .vptr [.int .i64 n, .vs (cUs s)]), (2, .mptr 0 0 0), (3, .mptr 1 0 0), (15, .int .i64 ((s.length + 1 : Nat) : Int)), (16, .int .i64 (k : Nat))] rfl .nil (.cons (by (repeat (first | rw [za1, if_pos rfl] | rw [za1, if_neg (by omega)] | rw [zag, if_neg (by omega)])); all_goals (first | rfl | assumption)) (.keep rfl) (.cons (by (repeat (first | rw [za1, if_pos rfl] | rw [za1, if_neg (by omega)] | rw [zag, if_neg (by omega)])); all_goals (first | rfl | assumption)) (.keep rfl) .nil)) (.cons rfl (.same rfl) (.cons rfl (.mptr rfl) (.cons rfl (.mptr rfl) (.cons rfl (.same rfl) (.cons rfl (.same rfl) .nil))))) ?_
    repeat (first | refine za0 rfl ?_ | refine za5 ?_ | refine za3 rfl ?_ | refine zb1 (op := .add) rfl rfl rfl ?_)
    rw [zam k (by omega)]
    exact zay (show s.length + 1 - (k + 1) < s.length + 1 - k by omega) (zaa (.cons rfl (.cons rfl (.cons rfl (.cons rfl (.cons rfl .nil)))))) ⟨k + 1, q + 1, rfl, hlt, by rw [hall, show s.length + 1 - (k + 1) = s.length - k by omega]; rfl, rfl⟩
   | some p =>
    rw [hb] at hF hall
    have hall : fewO n s = some p := hall
    obtain ⟨nx, ⟨tm, h4⟩, h3, r0, r1⟩ := hF
    refine ⟨_, _, .ret, _, _, _, _, _, _, h4, by simp, rfl, hmk h3, ?_⟩
    repeat (first | refine za9 ?_ | refine zaj ?_)
    refine zer ?_
    repeat (first | refine za9 ?_ | refine zaj ?_)
    rw [hall]
    have hlv : ∀ i < 2, Am.look i (zff ((q + 2, 1) :: zho 2 q) (zd4 (q + 2 + 1) H2.heap)) = Am.look i (zd4 (q + 2 + 1) H2.heap) := fun i hi => zcx _ _ _ fun z hz e => by
     rcases y0j.1 hz with rfl | hz
     ·have : q + 2 = i := e
      omega
     ·have := (zfs hz).1; omega
    refine zak ⟨.inr rfl, _, zhe ((zfg 2).trans rfl) (ze8 (sp := 0) (cs := [vsI p]) ((hlv 0 (by decide)).trans ?_) (show 0 < H2.next by omega) rfl) ((zfg 3).trans rfl) (ze8 (sp := 0) (cs := [.int .i64 0]) ((hlv 1 (by decide)).trans ?_) (show 1 < H2.next by omega) rfl), rfl⟩
    ·rw [zag, if_neg (by omega)]; exact r0
    ·rw [zag, if_neg (by omega)]; exact r1
  ·have hk2 : k = s.length + 1 := by
    have : ¬ k < s.length + 1 := fun h => of_decide_eq_false h3 (y1i.2 h)
    omega
   subst hk2
   have hall : fewO n s = none := by rw [hall, Nat.sub_self]; rfl
   rw [hall]
   repeat (first | refine za7 ?_ | refine za5 ?_ | refine za4 ?_ | refine zc7 rfl ?_ | refine zbg ?_ | refine zac ?_)
   refine zdb ?_
   repeat (first | refine za7 ?_ | refine za0 rfl ?_ | refine za5 ?_ | refine za4 ?_ | refine zao ?_ | refine zbf ?_ | refine zb3 rfl rfl rfl rfl rfl rfl rfl ?_)
   have hlv : ∀ i < 2, Am.look i (zff (zho 2 q) (zaz 1 (0, .cells [.int .i64 6]) (zaz 0 (0, .cells [.nils]) (zew 0 [(some (0, 0), [.nils]), (some (1, 0), [.int .i64 0])] ++ zf6 2 q)))) = Am.look i (zaz 1 (0, .cells [.int .i64 6]) (zaz 0 (0, .cells [.nils]) (zew 0 [(some (0, 0), [.nils]), (some (1, 0), [.int .i64 0])] ++ zf6 2 q))) := fun i hi => zcx _ _ _ fun z hz e => by have := (zfs hz).1; omega
   exact zak ⟨.inr rfl, _, zhe ((zfg 2).trans rfl) (ze8 (sp := 0) (cs := [.nils]) ((hlv 0 (by decide)).trans rfl) (show 0 < q + 2 by omega) rfl) ((zfg 3).trans rfl) (ze8 (sp := 0) (cs := [.int .i64 6]) ((hlv 1 (by decide)).trans rfl) (show 1 < q + 2 by omega) rfl), rfl⟩
 ·rw [if_neg hl]
  repeat (first | refine za7 ?_ | refine za0 rfl ?_ | refine za5 ?_ | refine za4 ?_ | refine za3 rfl ?_)
  refine zax rfl rfl rfl (fun h => ?_) fun h => absurd (by simpa using h) hl
  repeat (first | refine za7 ?_ | refine za0 rfl ?_ | refine za5 ?_ | refine za4 ?_ | refine zc8 rfl ?_ | refine zao ?_ | refine za9 ?_ | refine za3 rfl ?_ | refine zb3 rfl rfl rfl rfl rfl rfl rfl ?_)
  exact zak ⟨.inr rfl, _, rfl, rfl⟩
theorem bits_eq {x y : BitVec 64} (h : ∀ b, x.getLsbD b = true ↔ y.getLsbD b = true) : x = y := by
 refine BitVec.eq_of_getLsbD_eq fun b _ => ?_
 have := h b
 cases hx : x.getLsbD b <;> cases hy : y.getLsbD b <;> simp_all
theorem uni_bit (s : List (BitVec 64)) (c : List Int) (b : Nat) : (uni s c).getLsbD b = c.any fun i => (s.getD i.toNat 0).getLsbD b := by
 have key : ∀ (c : List Int) (a : BitVec 64), (c.foldl (fun a i => a ||| s.getD i.toNat 0) a).getLsbD b = (a.getLsbD b || c.any fun i => (s.getD i.toNat 0).getLsbD b) := by
  intro c
  induction c with
  | nil => intro a; simp
  | cons z c ih => intro a; rw [y2a, ih, BitVec.getLsbD_or, y2o, Bool.or_assoc]
 unfold uni
 rw [key c 0]
 simp
theorem few_mem {n : Int} {s : List (BitVec 64)} {c : List Int} (h : fewO n s = some c) : c.length ≤ s.length ∧ covB n s c = true ∧ ∀ z ∈ c, 0 ≤ z ∧ z < s.length := by
 have h2 := List.mem_of_find?_eq_some h
 have h3 := List.find?_some h
 unfold zo9 at h2
 obtain ⟨j, hj, hm⟩ := y1s.1 h2
 rw [y2i] at hj
 have hm : c.length = j ∧ ∀ z ∈ c, ((0 : Nat) : Int) ≤ z ∧ z < s.length := zkx hm
 exact ⟨by omega, h3, fun z hz => by have := hm.2 z hz; omega⟩
theorem ascM_add (N k a : Nat) : ∀ b : Nat, zo9 N k (a + b) = zo9 N k a ++ zo9 N (k + a) b := by
 intro b
 unfold zo9
 rw [← List.flatMap_append, List.range'_append_1]
theorem zth {N : Nat} : ∀ {d : List Int} {f : Nat}, d.Pairwise (· < ·) → (∀ z ∈ d, (f : Int) ≤ z ∧ z < N) → d ∈ asc N d.length f
 | [], f, _, _ => by
  show [] ∈ asc N 0 f
  rw [asc]
  exact y0e.2 rfl
 | k :: d, f, hp, hm => by
  obtain ⟨h1, h2⟩ := y2l.1 hp
  have hk := hm k (y05 ..)
  show _ ∈ asc N (d.length + 1) f
  rw [asc]
  refine y1s.2 ⟨k.toNat, by rw [y2i]; omega, y0o.2 ⟨d, zth h2 fun z hz => ?_, ?_⟩⟩
  ·have := h1 z hz
   have := (hm z (y04 _ hz)).2
   omega
  ·rw [show ((k.toNat : Nat) : Int) = k by omega]
theorem few_min {n : Int} {s : List (BitVec 64)} {c d : List Int} (h : fewO n s = some c) (hp : d.Pairwise (· < ·)) (hm : ∀ z ∈ d, 0 ≤ z ∧ z < s.length) (hd : uni s d = allB n) : c.length ≤ d.length := by
 refine Nat.le_of_not_lt fun hlt => ?_
 have hcl := (few_mem h).1
 unfold fewO at h
 obtain ⟨e, he⟩ : ∃ e, s.length + 1 = c.length + e := ⟨s.length + 1 - c.length, by omega⟩
 rw [he, ascM_add, List.find?_append] at h
 have hmem : d ∈ zo9 s.length 0 c.length := by
  unfold zo9
  refine y1s.2 ⟨d.length, by rw [y2i]; omega, zth hp fun z hz => ?_⟩
  have := hm z hz
  omega
 have hs : ((zo9 s.length 0 c.length).find? (covB n s)).isSome = true := by
  rw [List.find?_isSome]
  exact ⟨d, hmem, by unfold covB; rw [hd]; exact beq_self_eq_true _⟩
 obtain ⟨x, hx⟩ := Option.isSome_iff_exists.1 hs
 rw [hx] at h
 obtain rfl := y17 h
 have h2 := List.mem_of_find?_eq_some hx
 unfold zo9 at h2
 obtain ⟨j, hj, hm2⟩ := y1s.1 h2
 rw [y2i] at hj
 have hm2 : x.length = j ∧ ∀ z ∈ x, ((0 : Nat) : Int) ≤ z ∧ z < s.length := zkx hm2
 omega
theorem few_some {n : Int} {s : List (BitVec 64)} {c : List Int} (hp : c.Pairwise (· < ·)) (hm : ∀ z ∈ c, 0 ≤ z ∧ z < s.length) (hu : uni s c = allB n) (hl : c.length ≤ s.length) : (fewO n s).isSome = true := by
 unfold fewO zo9
 rw [List.find?_isSome]
 refine ⟨c, y1s.2 ⟨c.length, by rw [y2i]; omega, zth hp fun z hz => by have := hm z hz; omega⟩, ?_⟩
 unfold covB
 rw [hu]
 exact beq_self_eq_true _
theorem bit_ok : (List.range 13).all (fun m => (List.range 64).all fun i => (allB (m : Nat)).getLsbD i == decide (i < m)) = true := by decide +kernel
theorem all_bit {m i : Nat} (h : m ≤ 12) (hi : i < m) : (allB (m : Nat)).getLsbD i = true := by
 have h1 := y0d.1 bit_ok m (y0g.2 (by omega))
 have h2 := y0d.1 h1 i (y0g.2 (by omega))
 rw [beq_iff_eq] at h2
 rw [h2, decide_eq_true hi]
end Go.Proofs.Ytfbeableaihooaa.Sc
namespace Go.Proofs.Ytfbeableaihooaa
open Go Go.Am
def znw (E : List (Nat × Nat)) (m k : Nat) : Bool := !((zo3 (zjy E m E) (rps E m m).length (rps E m m).length).any fun e => e.2 == k)
theorem zu2 {B : List (Nat × Nat)} {n a b : Nat} (hB : ∀ u v, (u, v) ∈ B → u < n ∧ v < n) : (a, b) ∈ zo3 B n n ↔ (a, b) ∈ B := by
 unfold zo3
 rw [y1s]
 constructor
 ·rintro ⟨v, _, h⟩
  obtain ⟨w, hw, e⟩ := y0o.1 h
  obtain ⟨rfl, rfl⟩ := Prod.mk.inj e
  exact (zcy fun u v h => (hB u v h).2).1 hw
 ·intro h
  exact ⟨a, y0g.2 (hB a b h).1, y0o.2 ⟨b, (zcy fun u v h => (hB u v h).2).2 h, rfl⟩⟩
section
variable {E : List (Nat × Nat)} {m : Nat} (hb : ∀ u v, (u, v) ∈ E → u < m ∧ v < m)
include hb
theorem zx2 {k : Nat} : znw E m k = true ↔ ∀ e ∈ E, cpN E m e.1 ≠ cpN E m e.2 → cpN E m e.2 ≠ k := by
 unfold znw
 rw [Bool.not_eq_true', List.any_eq_false]
 constructor
 ·intro h e he hne hk
  have h1 : (cpN E m e.1, cpN E m e.2) ∈ zjy E m E := zkz.2 ⟨hne, e, he, rfl, rfl⟩
  exact h _ ((zu2 (zod hb)).2 h1) (by rw [beq_iff_eq]; exact hk)
 ·rintro h ⟨a, b⟩ he hk
  rw [zu2 (zod hb)] at he
  obtain ⟨hne, e, hm, rfl, rfl⟩ := zkz.1 he
  exact h e hm hne (by simpa using hk)
theorem zu4 {u v : Nat} (hu : u < m) (hv : v < m) : cpN E m u = cpN E m v ↔ Mut E u v := by
 have hk := zq3 hb hu
 have h1 := zq4 hb hu hk
 have h2 := zq4 hb hv hk
 have hr : (rps E m m)[cpN E m u] < m := ((ze6 hb (y0b m)).1 (y0y hk)).1
 rw [beq_self_eq_true] at h1
 have h1 := (zcd hb hr hu).1 h1.symm
 constructor
 ·intro e
  rw [← e, beq_self_eq_true] at h2
  exact h1.symm.trans ((zcd hb hr hv).1 h2.symm)
 ·intro e
  rw [(zcd hb hr hv).2 (h1.trans e), beq_iff_eq] at h2
  exact h2.symm
theorem src_back {k : Nat} (hs : znw E m k = true) {j v w : Nat} (h : Wk E j v w) : cpN E m w = k → cpN E m v = k := by
 induction h with
 | refl => exact fun h => h
 | @step _ _ x y _ e ih =>
  intro hk
  refine ih ?_
  by_cases c : cpN E m x = cpN E m y
  ·exact c.trans hk
  ·exact absurd hk ((zx2 hb).1 hs _ e c)
omit hb in
theorem zui {p q : Nat → Bool} {w : Nat} (hp : ∀ v, p v = true → q v = true) (hw : w < m) (hq : q w = true) (hn : p w = false) : ((List.range m).filter p).length < ((List.range m).filter q).length := by
 have := zda (a := w :: (List.range m).filter p) (b := (List.range m).filter q) (y21.2 ⟨fun h => Bool.noConfusion ((y0t.1 h).2.symm.trans hn), y2c _ y2f⟩) fun x hx => by
   rcases y0j.1 hx with rfl | hx
   ·exact y0t.2 ⟨y0g.2 hw, hq⟩
   ·exact y0t.2 ⟨(y0t.1 hx).1, hp x (y0t.1 hx).2⟩
 rwa [y0l] at this
theorem znx : ∀ (d w : Nat), w < m → ((List.range m).filter fun v => decide (0 ≤ gI (zgn E m v m) w)).length ≤ d → ∃ v, v < m ∧ znw E m (cpN E m v) = true ∧ Rch E v w
 | d, w, hw, hd => by
  by_cases hs : znw E m (cpN E m w) = true
  ·exact ⟨w, hw, hs, Rch.refl E w⟩
  have hs2 : ∃ e ∈ E, cpN E m e.1 ≠ cpN E m e.2 ∧ cpN E m e.2 = cpN E m w := Classical.byContradiction fun hn => hs ((zx2 hb).2 fun e he hne hk => hn ⟨e, he, hne, hk⟩)
  obtain ⟨⟨x, y⟩, he, hne, hyw⟩ := hs2
  obtain ⟨hx, hy⟩ := hb x y he
  have hyw2 : Rch E y w := ((zu4 hb hy hw).1 hyw).1
  have hxw : Rch E x w := (Rch.edge he).trans hyw2
  have key : ((List.range m).filter fun v => decide (0 ≤ gI (zgn E m v m) x)).length < ((List.range m).filter fun v => decide (0 ≤ gI (zgn E m v m) w)).length := by
   have e1 : ∀ z, z < m → ((List.range m).filter fun v => decide (0 ≤ gI (zgn E m v m) z)) = (List.range m).filter fun v => decide (v < m) && decide (0 ≤ gI (zgn E m v m) z) := fun z _ => List.filter_congr fun v hv => by rw [decide_eq_true (y0g.1 hv), Bool.true_and]
   rw [e1 x hx, e1 w hw]
   refine zui (w := w) (fun v hv => ?_) hw ?_ ?_
   ·rw [y0h, decide_eq_true_eq, decide_eq_true_eq] at hv ⊢
    have h1 : Rch E v x := (ze9 hb hv.1).1 hv.2
    exact ⟨hv.1, (ze9 hb hv.1).2 (h1.trans hxw)⟩
   ·rw [y0h, decide_eq_true_eq, decide_eq_true_eq]
    exact ⟨hw, (ze9 hb hw).2 (Rch.refl E w)⟩
   ·rw [decide_eq_true hw, Bool.true_and, decide_eq_false_iff_not]
    intro h
    have h1 : Rch E w x := (ze9 hb hw).1 h
    exact hne (((zu4 hb hx hw).2 ⟨hxw, h1⟩).trans hyw.symm)
  match d, hd with
  | 0, hd => omega
  | d + 1, hd =>
   obtain ⟨v, hv, h1, h2⟩ := znx d x hx (by omega)
   exact ⟨v, hv, h1, h2.trans hxw⟩
end
def setS (l : List Int) : BitVec 64 := l.foldl (fun a k => a ||| (1#64 <<< k.toNat)) 0
theorem zra (j : Nat) (hj : j < 64) : ∀ (c : List Int) (a : BitVec 64), (c.foldl (fun a k => a ||| (1#64 <<< k.toNat)) a).getLsbD j = (a.getLsbD j || c.any fun k => k.toNat == j)
 | [], a => by simp
 | k :: c, a => by
  rw [y2a, zra j hj c, y2o, BitVec.getLsbD_or, Bool.or_assoc]
  congr 2
  rw [BitVec.getLsbD_shiftLeft, BitVec.getLsbD_one]
  by_cases h1 : k.toNat = j
  ·simp [h1, hj]
  ·by_cases h2 : j < k.toNat
   ·simp [h1, h2]
   ·have : ¬ j - k.toNat = 0 := by omega
    simp [h1, this]
theorem set_bit {c : List Int} {j : Nat} (hj : j < 64) : (setS c).getLsbD j = c.any fun k => k.toNat == j := by
 unfold setS
 rw [zra j hj]
 simp
def zi0 (E : List (Nat × Nat)) (m i : Nat) : List (BitVec 64) := (List.range i).map fun v => setS (zkn (zgn E m v m) m)
theorem ze2 (E : List (Nat × Nat)) (m i : Nat) : (zi0 E m i).length = i := by
 unfold zi0
 rw [y07, y0v]
section
variable {E : List (Nat × Nat)} {m : Nat} (hb : ∀ u v, (u, v) ∈ E → u < m ∧ v < m)
include hb
theorem zom {v j : Nat} (hv : v < m) (hj : j < 64) : ((zi0 E m m).getD v 0).getLsbD j = true ↔ j < m ∧ Rch E v j := by
 unfold zi0
 rw [y0c, y0f, y2j hv, Option.map_some, y1q, set_bit hj, y2v]
 constructor
 ·rintro ⟨k, hk, e⟩
  unfold zkn at hk
  obtain ⟨w, hw, rfl⟩ := y0o.1 hk
  obtain ⟨h1, h2⟩ := y0t.1 hw
  rw [beq_iff_eq, y11] at e
  subst e
  exact ⟨y0g.1 h1, (ze9 hb hv).1 (of_decide_eq_true h2)⟩
 ·rintro ⟨h1, h2⟩
  refine ⟨(j : Nat), ?_, by rw [beq_iff_eq, y11]⟩
  unfold zkn
  exact y0o.2 ⟨j, y0t.2 ⟨y0g.2 h1, decide_eq_true ((ze9 hb hv).2 h2)⟩, rfl⟩
theorem fam_bad {x : BitVec 64} (hx : x ∈ zi0 E m m) (h12 : m ≤ 12) : Sc.badU (m : Nat) x = false := by
 obtain ⟨v, hv, rfl⟩ := y1j.1 hx
 rw [ze2] at hv
 have hg : (zi0 E m m)[v]'(by rw [ze2]; exact hv) = (zi0 E m m).getD v 0 := by
  rw [y0c, y06 (by rw [ze2]; exact hv)]
  rfl
 unfold Sc.badU
 rw [bne_eq_false_iff_eq]
 refine Sc.bits_eq fun b => ?_
 rw [BitVec.getLsbD_and, BitVec.getLsbD_not]
 by_cases h : b < 64
 ·constructor
  ·intro hh
   rw [hg, y0h, zom hb hv h] at hh
   have := Sc.all_bit h12 hh.1.1
   rw [this] at hh
   simp at hh
  ·intro hh
   simp at hh
 ·simp [h]
theorem zpk (h12 : m ≤ 12) {d : List Int} (hd : ∀ z ∈ d, 0 ≤ z ∧ z < m) : Sc.uni (zi0 E m m) d = Sc.allB (m : Nat) ↔ ∀ w, w < m → ∃ z ∈ d, Rch E z.toNat w := by
 have hbit : ∀ b, b < 64 → ((Sc.uni (zi0 E m m) d).getLsbD b = true ↔ ∃ z ∈ d, b < m ∧ Rch E z.toNat b) := fun b c => by
  rw [Sc.uni_bit, y2v]
  constructor
  ·rintro ⟨z, hz, h⟩
   have := hd z hz
   exact ⟨z, hz, (zom hb (by omega) c).1 h⟩
  ·rintro ⟨z, hz, h⟩
   have := hd z hz
   exact ⟨z, hz, (zom hb (by omega) c).2 h⟩
 have hall : ∀ b, b < 64 → ((Sc.allB (m : Nat)).getLsbD b = true ↔ b < m) := fun b c => by
  have h1 := y0d.1 Sc.bit_ok m (y0g.2 (by omega))
  have h2 := y0d.1 h1 b (y0g.2 c)
  rw [beq_iff_eq] at h2
  rw [h2, decide_eq_true_eq]
 constructor
 ·intro e w hw
  have h1 := (hall w (by omega)).2 hw
  rw [← e] at h1
  obtain ⟨z, hz, _, h⟩ := (hbit w (by omega)).1 h1
  exact ⟨z, hz, h⟩
 ·intro h
  refine Sc.bits_eq fun b => ?_
  by_cases c : b < 64
  ·rw [hbit b c, hall b c]
   exact ⟨fun ⟨_, _, h1, _⟩ => h1, fun h1 => let ⟨z, hz, h2⟩ := h b h1; ⟨z, hz, h1, h2⟩⟩
  ·rw [BitVec.getLsbD_of_ge _ _ (by omega), BitVec.getLsbD_of_ge _ _ (by omega)]
theorem rps_cp : (rps E m m).map (cpN E m) = List.range (rps E m m).length := by
 refine List.ext_getElem (by rw [y07, y0v]) fun k h1 h2 => ?_
 rw [y07] at h1
 rw [List.getElem_map, List.getElem_range]
 have hr : (rps E m m)[k] < m := ((ze6 hb (y0b m)).1 (y0y h1)).1
 have := zq4 hb hr h1
 rw [(zcd hb hr hr).2 ⟨Rch.refl E _, Rch.refl E _⟩, beq_iff_eq] at this
 exact this
def srcL (E : List (Nat × Nat)) (m : Nat) : List Nat := (List.range (rps E m m).length).filter (znw E m)
theorem src_len : ((rps E m m).filter fun r => znw E m (cpN E m r)).length = (srcL E m).length := by
 unfold srcL
 rw [← rps_cp hb, List.filter_map, y07]
 rfl
theorem zu3 (h12 : m ≤ 12) {c : List Int} (h : Sc.fewO (m : Nat) (zi0 E m m) = some c) : (∀ k, k < (rps E m m).length → znw E m k = true → ∃ z ∈ c, 0 ≤ z ∧ z < m ∧ cpN E m z.toNat = k) ∧ c.length = (srcL E m).length := by
 obtain ⟨hl, hc, hz⟩ := Sc.few_mem h
 rw [ze2] at hl hz
 have hu : Sc.uni (zi0 E m m) c = Sc.allB (m : Nat) := by
  unfold Sc.covB at hc
  exact beq_iff_eq.1 hc
 have hall := (zpk hb h12 hz).1 hu
 have key : ∀ k, k < (rps E m m).length → znw E m k = true → ∃ z ∈ c, 0 ≤ z ∧ z < m ∧ cpN E m z.toNat = k := fun k hk hs => by
  have hr : (rps E m m)[k] < m := ((ze6 hb (y0b m)).1 (y0y hk)).1
  obtain ⟨z, hzc, j, hw⟩ := hall _ hr
  have hz2 := hz z hzc
  refine ⟨z, hzc, hz2.1, hz2.2, src_back hb hs hw ?_⟩
  have := zq4 hb hr hk
  rw [(zcd hb hr hr).2 ⟨Rch.refl E _, Rch.refl E _⟩, beq_iff_eq] at this
  exact this
 refine ⟨key, Nat.le_antisymm ?_ ?_⟩
 ·have el : (((rps E m m).filter fun r => znw E m (cpN E m r)).map fun r : Nat => (r : Int)).length = (srcL E m).length := by rw [y07, src_len hb]
  rw [← el]
  have hm : ∀ z ∈ ((rps E m m).filter fun r => znw E m (cpN E m r)).map (fun r : Nat => (r : Int)), 0 ≤ z ∧ z < m := fun z hz => by
   obtain ⟨r, hr, rfl⟩ := y0o.1 hz
   have := ((ze6 hb (y0b m)).1 (y0t.1 hr).1).1
   omega
  refine Sc.few_min h ?_ (by rw [ze2]; exact hm) ((zpk hb h12 hm).2 fun w hw => ?_)
  ·rw [List.pairwise_map]
   refine y2c _ ?_
   unfold rps
   refine y2c _ ?_
   exact List.pairwise_lt_range.imp fun h => by omega
  ·obtain ⟨v, hv, hs, hr⟩ := znx hb _ w hw (y0b _)
   obtain ⟨hmu, hle, _⟩ := zjo hb hv
   have hrm : zr0 E m v < m := by omega
   refine ⟨(zr0 E m v : Nat), y0o.2 ⟨_, y0t.2 ⟨zgv hb (y0b m) hv, ?_⟩, rfl⟩, ?_⟩
   ·rw [(zu4 hb hrm hv).2 hmu]
    exact hs
   ·rw [y11]
    exact hmu.1.trans hr
 ·have el : (c.map fun z : Int => cpN E m z.toNat).length = c.length := y07 ..
  rw [← el]
  unfold srcL
  refine zda (y2c _ y2f) fun k hk => ?_
  obtain ⟨h1, h2⟩ := y0t.1 hk
  obtain ⟨z, hzc, _, _, e⟩ := key k (y0g.1 h1) h2
  exact y0o.2 ⟨z, hzc, e⟩
theorem zrz (h12 : m ≤ 12) : (Sc.fewO (m : Nat) (zi0 E m m)).isSome = true := by
 have hm : ∀ z ∈ (List.range m).map (fun r : Nat => (r : Int)), 0 ≤ z ∧ z < m := fun z hz => by
  obtain ⟨r, hr, rfl⟩ := y0o.1 hz
  have := y0g.1 hr
  omega
 refine Sc.few_some (c := (List.range m).map fun r : Nat => (r : Int)) ?_ (by rw [ze2]; exact hm) ((zpk hb h12 hm).2 fun w hw => ⟨(w : Nat), y0o.2 ⟨w, y0g.2 hw, rfl⟩, by rw [y11]; exact Rch.refl E w⟩) (by rw [ze2, y07, y0v]; exact y0b _)
 rw [List.pairwise_map]
 exact List.pairwise_lt_range.imp fun h => by omega
end
-- pneumatic/pneumatictop.playSmall
def ic6 : IC := .seq (.region [oM 1 (.box (.t 0)),
  oM 2 (.mov (.c (.bool false)))] none)
 (.seq (.region [oF 3 0 1,
  oN 4 3,
  oM 5 (.bin .geq (.t 4) (.c (.int .i64 1))),
  oT 6 5,
  ⟨(some 7), .faddr 0 (.t 1), some (6, true)⟩,
  ⟨(some 8), .load none (.t 7), some (6, true)⟩,
  ⟨(some 9), .bin .leq (.t 8) (.c (.int .i64 8)), some (6, true)⟩,
  oM 10 (.pick (.t 6) (.t 9) (.c (.bool false))),
  oT 11 10,
  ⟨(some 12), .faddr 1 (.t 1), some (11, true)⟩,
  ⟨(some 13), .load none (.t 12), some (11, true)⟩,
  ⟨(some 14), .len false (.t 13), some (11, true)⟩,
  ⟨(some 15), .bin .leq (.t 14) (.c (.int .i64 20)), some (11, true)⟩,
  oM 16 (.pick (.t 11) (.t 15) (.c (.bool false))),
  oT 17 16,
  ⟨(some 18), .load (some 2) (.t 1), some (17, true)⟩,
  ⟨(some 19), .call (.c (.fn 26 [] [])) [(.t 18)], some (17, true)⟩,
  ⟨(some 20), .bin .eql (.t 19) (.c (.int .i64 0)), some (17, true)⟩,
  oM 21 (.pick (.t 17) (.t 20) (.c (.bool false))),
  oT 2 21] none)
 (.ret))
theorem fn6 : env0.fn 6 = some ⟨22, ic6, [.t 2]⟩ := by kernel_rfl
def zrb (n : Int) (es : List (Int × Int)) : Bool := decide (n ≥ 1) && (decide (n ≤ 8) && (decide ((es.length : Int) ≤ 20) && (zgc n es == 0)))
set_option maxHeartbeats 2000000 in
theorem small6 (n : Int) (es : List (Int × Int)) : PF Try.prog 6 [cG n es] (.bool (zrb n es)) := by
 have hcl : (cE es).length = es.length := zco es
 have q1 := check35 n es
 refine zb0 env0_ok fn6 [(0, .agg [.int .i64 n, .vs (cE es)])] (by show 1 ≤ 22; decide) rfl fun w0 N0 => ?_
 unfold ic6 zrb
 refine zsr rfl (zcz rfl rfl (za3 rfl (onr rfl (zar rfl (zad rfl rfl ?_)))))
 refine zax rfl rfl rfl (fun h1 => ?_) fun h1 => ?_
 all_goals
  rw [h1]
  repeat (first | refine za5 ?_ | refine za4 ?_ | refine zao ?_ | refine zh4 rfl ?_ | refine zkk rfl rfl ?_ | refine za3 rfl ?_ | refine zad rfl rfl ?_ | refine zar rfl ?_ | refine zbb rfl rfl ?_)
 ·refine zax rfl rfl rfl (fun h2 => ?_) fun h2 => ?_
  all_goals
   rw [h2]
   repeat (first | refine za5 ?_ | refine za4 ?_ | refine zao ?_ | refine zh4 rfl ?_ | refine zkk rfl rfl ?_ | refine za3 rfl ?_ | refine zad rfl rfl ?_ | refine zar rfl ?_ | refine zbk rfl rfl ?_ | refine zbb rfl rfl ?_ | refine zbo rfl rfl ?_)
  ·rw [hcl]
   refine zax rfl rfl rfl (fun h3 => ?_) fun h3 => ?_
   all_goals
    rw [h3]
    repeat (first | refine za5 ?_ | refine za4 ?_ | refine zao ?_ | refine zh4 rfl ?_ | refine zkk rfl rfl ?_ | refine za3 rfl ?_ | refine zb2 rfl rfl rfl rfl ?_ | refine zbk rfl rfl ?_ | refine zbb rfl rfl ?_)
   ·refine zb9 rfl rfl q1 noC ?_
    refine zh4 rfl ?_
    refine zax rfl rfl rfl (fun h4 => ?_) fun h4 => ?_
    all_goals
     rw [h4]
     refine zbk rfl rfl (za3 rfl (onu (zao ?_)))
     exact zak ⟨.inr rfl, _, rfl, rfl⟩
   ·exact zak ⟨.inr rfl, _, rfl, rfl⟩
  ·exact zak ⟨.inr rfl, _, rfl, rfl⟩
 ·exact zak ⟨.inr rfl, _, rfl, rfl⟩
def tabQ : Tab := [(23, [([vsI [2, 0, 1], vsI [2, 0, 1]], .bool true)])]
theorem tabQ_ok : TabOk Try.prog tabQ := TabOk.of_run (env0_ok.tab TabOk.nil (pure := [])) (n := 60) (by kernel_rfl)
theorem equal23 : PF Try.prog 23 [vsI [2, 0, 1], vsI [2, 0, 1]] (.bool true) := tabQ_ok _ (y05 ..) _ (y05 ..)
theorem pth_ex : pthV 3 [(2, 0), (0, 1)] 2 1 = .tup [vsI [2, 0, 1], .int .i64 0] := by kernel_rfl
-- pneumatic/pneumatictop.playGraph
def ic7 : IC := .seq (.region [oM 0 (.mov (.c (.bool false)))] none)
 (.seq (.region [oM 4 (.build [.int .i64 0, .int .i64 0] [(0, 1, (.c (.int .i64 2))), (1, 1, (.c (.int .i64 0)))]),
  oM 5 (.build [.int .i64 0, .int .i64 0] [(0, 1, (.c (.int .i64 0))), (1, 1, (.c (.int .i64 1)))]),
  oM 6 (.bslice 2 2 [.int .i64 0, .int .i64 0, .int .i64 0, .int .i64 0] [(0, 2, (.t 4)), (2, 2, (.t 5))]),
  oM 7 (.build [.int .i64 0, .nils] [(0, 1, (.c (.int .i64 3))), (1, 1, (.t 6))]),
  oM 8 (.call (.c (.fn 27 [] [])) [(.t 7), (.c (.int .i64 2)), (.c (.int .i64 1))]),
  oT 3 8,
  oM 9 (.extract (.t 3) 0),
  oM 10 (.extract (.t 3) 1),
  oT 1 9,
  oT 2 10] none)
 (.seq (.region [oT 11 2,
  oM 12 (.bin .eql (.t 11) (.c (.int .i64 0))),
  oT 13 12,
  ⟨(some 14), .mov (.t 1), some (13, true)⟩,
  ⟨(some 15), .bslice 1 3 [.int .i64 0, .int .i64 0, .int .i64 0] [(0, 1, (.c (.int .i64 2))), (1, 1, (.c (.int .i64 0))), (2, 1, (.c (.int .i64 1)))], some (13, true)⟩,
  ⟨(some 16), .call (.c (.fn 23 [] [])) [(.t 14), (.t 15)], some (13, true)⟩,
  oM 17 (.pick (.t 13) (.t 16) (.c (.bool false))),
  oT 0 17] none)
 (.ret)))
theorem fn7 : env0.fn 7 = some ⟨18, ic7, [.t 0]⟩ := by kernel_rfl
theorem graph7 : PF Try.prog 7 [] (.bool true) := by
 have q1 := path27 3 [(2, 0), (0, 1)] (fun _ => by decide) 2 1
 rw [pth_ex] at q1
 refine zb0 env0_ok fn7 [] (by show 0 ≤ 18; decide) rfl fun w0 N0 => ?_
 unfold ic7
 refine zsr rfl (za3 rfl (onr rfl (zbz rfl rfl (zbz rfl rfl (o_fsl [[.int .i64 2, .int .i64 0], [.int .i64 0, .int .i64 1]] rfl rfl rfl rfl (zbz rfl rfl ?_))))))
 refine zb9 rfl rfl q1 noC ?_
 repeat (first | refine za7 ?_ | refine za0 rfl ?_ | refine za5 ?_ | refine za4 ?_ | refine zh4 rfl ?_ | refine za3 rfl ?_ | refine zb6 rfl rfl ?_ | refine zb5 rfl rfl ?_ | refine zf5 rfl rfl rfl ?_)
 refine zb9 rfl rfl equal23 (fun _ => rfl) ?_
 refine zbk rfl rfl (za3 rfl (onu (zao ?_)))
 exact zak ⟨.inr rfl, _, rfl, rfl⟩
-- pneumatic/pneumatictop.TopPathsCovers$1
def ic17 : IC := .seq (.region [oM 2 (.box (.t 0)),
  oM 3 (.mov (.c (.bool false)))] none)
 (.seq (.region [oF 4 1 2,
  oN 5 4,
  oN 6 1,
  oM 7 (.bin .eql (.t 5) (.t 6)),
  oT 3 7] none)
 (.ret))
theorem fn17 : env0.fn 17 = some ⟨8, ic17, [.t 3]⟩ := by kernel_rfl
theorem to17 (a b : Int) (i : Int) : PF Try.prog 17 [.agg [.int .i64 a, .int .i64 b], .vptr [.int .i64 i]] (.bool (b == i)) := by
 refine zb0 env0_ok fn17 [(0, .agg [.int .i64 a, .int .i64 b]), (1, .vptr [.int .i64 i])] (by show 2 ≤ 8; decide) rfl fun w0 N0 => ?_
 unfold ic17
 refine zsr rfl (zcz rfl rfl (za3 rfl (onr rfl (zar rfl (zad rfl rfl (zad rfl rfl ?_))))))
 refine zax rfl rfl rfl (fun h => ?_) fun h => ?_
 all_goals
  rw [h]
  refine za3 rfl (onu (zao ?_))
  exact zak ⟨.inr rfl, _, rfl, rfl⟩
def ixP {α : Type} (p : α → Bool) : List α → Int → Int
 | [], _ => -1
 | s :: r, b => if p s = true then b else ixP p r (b + 1)
theorem zp3 {α : Type} (p : α → Bool) : ∀ (l : List α) (b : Int), 0 ≤ b → decide (ixP p l b ≥ 0) = l.any p
 | [], b, _ => rfl
 | s :: r, b, h => by
  rw [ixP, y2o]
  cases e : p s with
  | true => rw [if_pos rfl, Bool.true_or]; exact decide_eq_true h
  | false => rw [if_neg (by decide), y2y]; exact zp3 p r (b + 1) (by omega)
def b43_0 : IC := .seq (.region [oM 9 (.bin .lss (.t 8) (.t 7))] none)
 (.seq (.cond (.t 9) (.skip)
 (.exit 0))
 (.seq (.block 1 (.seq (.region [oT 10 8,
  oT 5 10] none)
 (.seq (.region [oT 11 1,
  oT 12 0,
  oT 13 5,
  oM 14 (.idxs 2 (.t 12) (.t 13)),
  oL 15 2 14,
  oM 16 (.call (.t 11) [(.t 15)])] none)
 (.cond (.t 16) (.seq (.region [oT 17 5,
  oT 4 17] none)
 (.ret))
 (.skip)))))
 (.region [oM 18 (.bin .add (.t 8) (.c (.int .i64 1))),
  oT 8 18] none)))
-- slices.IndexFunc[[]pneumatic/api.Edge,pneumatic/api.Edge]
def ic43 : IC := .seq (.region [oM 4 (.mov (.c (.int .i64 0)))] none)
 (.seq (.seq (.region [oT 6 0,
  oM 7 (.len false (.t 6)),
  oM 8 (.mov (.c (.int .i64 0)))] none)
 (.block 0 (.loop b43_0)))
 (.seq (.region [oM 4 (.mov (.c (.int .i64 (-1))))] none)
 (.ret)))
theorem fn43 : env0.fn 43 = some ⟨19, ic43, [.t 4]⟩ := by kernel_rfl
set_option maxHeartbeats 2000000 in
theorem index43 (es : List (Int × Int)) (hl : es.length ≤ 1000000) (i : Int) : PF Try.prog 43 [.vs (cE es), .fn 17 [] [.vptr [.int .i64 i]]] (.int .i64 (ixP (fun e => e.2 == i) es 0)) := by
 have hcl : (cE es).length = es.length := zco es
 refine zb0 env0_ok fn43 [(0, .vs (cE es)), (1, .fn 17 [] [.vptr [.int .i64 i]])] (by show 2 ≤ 19; decide) rfl fun w0 N0 => ?_
 unfold ic43
 refine zsr rfl (za3 rfl (onu (za7 (zsr rfl (za3 rfl (zbo rfl rfl (za3 rfl (onu (zab ?_)))))))))
 rw [hcl]
 refine zbv (fun mm S => ∃ j, mm = es.length - j ∧ j ≤ es.length ∧ ixP (fun e => e.2 == i) es 0 = ixP (fun e => e.2 == i) (es.drop j) (j : Nat) ∧ S = st 19 [(0, .vs (cE es)), (1, .fn 17 [] [.vptr [.int .i64 i]]), (7, .int .i64 (es.length : Nat)), (8, .int .i64 (j : Nat))] [] 0 1) es.length
  (zig (.cons rfl (.same rfl) (.cons rfl (.same rfl) (.cons rfl (.same rfl) (.cons rfl (.same rfl) .nil))))) ⟨0, rfl, y12 _, rfl, rfl⟩ ?_
 rintro mm S ⟨j, rfl, hj, hfx, rfl⟩
 unfold b43_0
 refine zsr rfl ?_
 refine zax rfl rfl rfl (fun h3 => ?_) fun h3 => ?_
 ·have hlt : j < es.length := by have := of_decide_eq_true h3; omega
  rw [y1n hlt, ixP] at hfx
  have hge := zq0 hlt
  have h17 := to17 es[j].1 es[j].2 i
  generalize es[j].1 = a at *
  generalize es[j].2 = b at *
  repeat (first | refine za7 ?_ | refine za0 rfl ?_ | refine za5 ?_ | refine za4 ?_ | refine zab ?_ | refine zaf ?_ | refine zc8 rfl ?_ | refine za3 rfl ?_ | refine zb2 rfl rfl rfl rfl ?_ | refine zb7 rfl rfl (by omega) (by assumption) rfl ?_)
  refine zp9 rfl rfl rfl h17 noC ?_
  cases hp : b == i with
  | true =>
   rw [hp, if_pos rfl] at hfx
   rw [hfx]
   refine onu (zc8 rfl (zsr rfl (za3 rfl (za3 rfl (onu (zao (zaj (za9 ?_))))))))
   refine zer ?_
   refine zaj (za9 ?_)
   exact zak ⟨.inr rfl, _, rfl, rfl⟩
  | false =>
   rw [hp, if_neg (by decide)] at hfx
   refine onu (zc7 rfl (zaf (zbl (za4 (za0 rfl (zb1 (op := .add) rfl rfl rfl (za3 rfl (za5 ?_))))))))
   rw [zam j (by omega)]
   exact zay (show es.length - (j + 1) < es.length - j by omega) (zig (.cons rfl (.same rfl) (.cons rfl (.same rfl) (.cons rfl (.same rfl) (.cons rfl (.same rfl) .nil))))) ⟨j + 1, rfl, hlt, hfx, rfl⟩
 ·have hj2 : j = es.length := by have := of_decide_eq_false h3; omega
  subst hj2
  rw [List.drop_length, ixP] at hfx
  rw [hfx]
  refine onu (za7 (zc7 rfl (zbg (zac ?_))))
  refine zdb ?_
  refine zbf (za4 (zsr rfl (za3 rfl (onu (zao ?_)))))
  exact zak ⟨.inr rfl, _, rfl, rfl⟩
-- slices.ContainsFunc[[]pneumatic/api.Edge,pneumatic/api.Edge]
def ic16 : IC := .seq (.region [oM 4 (.mov (.c (.bool false)))] none)
 (.seq (.region [oT 5 0,
  oT 6 1,
  oM 7 (.call (.c (.fn 43 [] [])) [(.t 5), (.t 6)]),
  oM 8 (.bin .geq (.t 7) (.c (.int .i64 0))),
  oT 4 8] none)
 (.ret))
theorem fn16 : env0.fn 16 = some ⟨9, ic16, [.t 4]⟩ := by kernel_rfl
theorem zrx (es : List (Int × Int)) (hl : es.length ≤ 1000000) (i : Int) : PF Try.prog 16 [.vs (cE es), .fn 17 [] [.vptr [.int .i64 i]]] (.bool (es.any fun e => e.2 == i)) := by
 have h1 := index43 es hl i
 refine zb0 env0_ok fn16 [(0, .vs (cE es)), (1, .fn 17 [] [.vptr [.int .i64 i]])] (by show 2 ≤ 9; decide) rfl fun w0 N0 => ?_
 unfold ic16
 refine zsr rfl (za3 rfl (onr rfl (za3 rfl (za3 rfl ?_))))
 refine zb9 rfl rfl h1 noC ?_
 refine zb1 (op := .geq) rfl rfl rfl ?_
 rw [zp3 _ es 0 (y2m 0)]
 refine za3 rfl (onu (zao ?_))
 exact zak ⟨.inr rfl, _, rfl, rfl⟩
-- pneumatic/pneumatictop.TopPathsCovers$2
def ic19 : IC := .seq (.region [oM 5 (.mov (.c (.bool false)))] none)
 (.seq (.region [oT 6 0,
  oM 7 (.bin .geq (.t 6) (.c (.int .i64 0))),
  oT 8 7,
  ⟨(some 9), .mov (.t 0), some (8, true)⟩,
  ⟨(some 10), .faddr 0 (.t 1), some (8, true)⟩,
  ⟨(some 11), .load none (.t 10), some (8, true)⟩,
  ⟨(some 12), .bin .lss (.t 9) (.t 11), some (8, true)⟩,
  oM 13 (.pick (.t 8) (.t 12) (.c (.bool false))),
  oT 14 13,
  ⟨(some 15), .load none (.t 2), some (14, true)⟩,
  ⟨(some 16), .mov (.t 0), some (14, true)⟩,
  ⟨(some 17), .idxs 1 (.t 15) (.t 16), some (14, true)⟩,
  ⟨(some 18), .load none (.t 17), some (14, true)⟩,
  ⟨(some 19), .load none (.t 3), some (14, true)⟩,
  ⟨(some 20), .bin .eql (.t 18) (.t 19), some (14, true)⟩,
  oM 21 (.pick (.t 14) (.t 20) (.c (.bool false))),
  oT 5 21] (some [[], [0], [1], [2], [2], [4, 2], [3, 5, 2], [2, 6], [7, 2], [8], [8], [9, 10, 8], [11, 8], [8], [12, 13, 8], [8, 14], [15, 8, 0, 1, 2, 3, 4, 5, 6, 7, 8, 9, 10, 11, 12, 13, 14, 15]]))
 (.ret))
theorem fn19 : env0.fn 19 = some ⟨22, ic19, [.t 5]⟩ := by kernel_rfl
def inC (n : Int) (at_ : List Int) (k v : Int) : Bool := decide (v ≥ 0) && (decide (v < n) && (gI at_ v.toNat == k))
theorem in19 (n : Nat) (E : List (List AV)) (at_ : List Int) (ha : at_.length = n) (hn : n ≤ 1000000) (k v : Int) : PF Try.prog 19 [.int .i64 v, .vptr [.int .i64 (n : Nat), .vs E], .vptr [vsI at_], .vptr [.int .i64 k]] (.bool (inC (n : Nat) at_ k v)) := by
 refine zb0 env0_ok fn19 [(0, .int .i64 v), (1, .vptr [.int .i64 (n : Nat), .vs E]), (2, .vptr [vsI at_]), (3, .vptr [.int .i64 k])] (by show 4 ≤ 22; decide) rfl fun w0 N0 => ?_
 unfold ic19 inC
 refine zsr rfl (za3 rfl (onu (za7 (zdf env0_ok rfl rfl rfl (za3 rfl ?_)))))
 refine zax rfl rfl rfl (fun h1 => ?_) fun h1 => ?_
 all_goals
  rw [h1]
  repeat (first | refine za5 ?_ | refine za4 ?_ | refine zao ?_ | refine zh4 rfl ?_ | refine zkk rfl rfl ?_ | refine za3 rfl ?_ | refine zad rfl rfl ?_ | refine zai rfl rfl rfl ?_ | refine zbb rfl rfl ?_)
 ·refine zax rfl rfl rfl (fun h2 => ?_) fun h2 => ?_
  all_goals
   rw [h2]
   repeat (first | refine za5 ?_ | refine za4 ?_ | refine zao ?_ | refine zh4 rfl ?_ | refine zkk rfl rfl ?_ | refine za3 rfl ?_ | refine zad rfl rfl ?_ | refine zbk rfl rfl ?_ | refine zbb rfl rfl ?_)
  ·have hv0 : v ≥ 0 := of_decide_eq_true h1
   have hv1 : v < (n : Nat) := of_decide_eq_true h2
   have hg : (at_.map fun z => ([.int .i64 z] : List AV))[v.toNat]? = some [.int .i64 (gI at_ v.toNat)] := by
    rw [y0f, y06 (by omega), gI_at (by omega)]
    rfl
   refine zb7 rfl rfl hv0 hg rfl ?_
   repeat (first | refine zh4 rfl ?_ | refine zad rfl rfl ?_)
   refine zax rfl rfl rfl (fun h3 => ?_) fun h3 => ?_
   all_goals
    rw [h3]
    refine zbk rfl rfl (za3 rfl (onu (zao ?_)))
    exact zak ⟨.inr rfl, _, rfl, rfl⟩
  ·exact zak ⟨.inr rfl, _, rfl, rfl⟩
 ·exact zak ⟨.inr rfl, _, rfl, rfl⟩
set_option maxHeartbeats 2000000 in
theorem index44 (c : List Int) (hl : c.length ≤ 1000000) (n : Nat) (E : List (List AV)) (at_ : List Int) (ha : at_.length = n) (hn : n ≤ 1000000) (k : Int) : PF Try.prog 44 [vsI c, .fn 19 [] [.vptr [.int .i64 (n : Nat), .vs E], .vptr [vsI at_], .vptr [.int .i64 k]]] (.int .i64 (ixP (inC (n : Nat) at_ k) c 0)) := by
 have hcl : (c.map fun z => ([.int .i64 z] : List AV)).length = c.length := y07 ..
 refine zb0 env0_ok fn44 [(0, vsI c), (1, .fn 19 [] [.vptr [.int .i64 (n : Nat), .vs E], .vptr [vsI at_], .vptr [.int .i64 k]])] (by show 2 ≤ 19; decide) rfl fun w0 N0 => ?_
 unfold ic44
 refine zsr rfl (za3 rfl (onu (za7 (zsr rfl (za3 rfl (zbo rfl rfl (za3 rfl (onu (zab ?_)))))))))
 rw [hcl]
 refine zbv (fun mm S => ∃ j, mm = c.length - j ∧ j ≤ c.length ∧ ixP (inC (n : Nat) at_ k) c 0 = ixP (inC (n : Nat) at_ k) (c.drop j) (j : Nat) ∧ S = st 19 [(0, vsI c), (1, .fn 19 [] [.vptr [.int .i64 (n : Nat), .vs E], .vptr [vsI at_], .vptr [.int .i64 k]]), (7, .int .i64 (c.length : Nat)), (8, .int .i64 (j : Nat))] [] 0 1) c.length
  (zig (.cons rfl (.same rfl) (.cons rfl (.same rfl) (.cons rfl (.same rfl) (.cons rfl (.same rfl) .nil))))) ⟨0, rfl, y12 _, rfl, rfl⟩ ?_
 rintro mm S ⟨j, rfl, hj, hfx, rfl⟩
 unfold b44_0
 refine zsr rfl ?_
 refine zax rfl rfl rfl (fun h3 => ?_) fun h3 => ?_
 ·have hlt : j < c.length := by have := of_decide_eq_true h3; omega
  rw [y1n hlt, ixP] at hfx
  have hge := zei hlt
  have h19 := in19 n E at_ ha hn k c[j]
  generalize c[j] = v at *
  repeat (first | refine za7 ?_ | refine za0 rfl ?_ | refine za5 ?_ | refine za4 ?_ | refine zab ?_ | refine zaf ?_ | refine zc8 rfl ?_ | refine za3 rfl ?_ | refine zad rfl rfl ?_ | refine zb7 rfl rfl (by omega) (by assumption) rfl ?_)
  refine zp9 rfl rfl rfl h19 noC ?_
  cases hp : inC (n : Nat) at_ k v with
  | true =>
   rw [hp, if_pos rfl] at hfx
   rw [hfx]
   refine onu (zc8 rfl (zsr rfl (za3 rfl (za3 rfl (onu (zao (zaj (za9 ?_))))))))
   refine zer ?_
   refine zaj (za9 ?_)
   exact zak ⟨.inr rfl, _, rfl, rfl⟩
  | false =>
   rw [hp, if_neg (by decide)] at hfx
   refine onu (zc7 rfl (zaf (zbl (za4 (za0 rfl (zb1 (op := .add) rfl rfl rfl (za3 rfl (za5 ?_))))))))
   rw [zam j (by omega)]
   exact zay (show c.length - (j + 1) < c.length - j by omega) (zig (.cons rfl (.same rfl) (.cons rfl (.same rfl) (.cons rfl (.same rfl) (.cons rfl (.same rfl) .nil))))) ⟨j + 1, rfl, hlt, hfx, rfl⟩
 ·have hj2 : j = c.length := by have := of_decide_eq_false h3; omega
  subst hj2
  rw [List.drop_length, ixP] at hfx
  rw [hfx]
  refine onu (za7 (zc7 rfl (zbg (zac ?_))))
  refine zdb ?_
  refine zbf (za4 (zsr rfl (za3 rfl (onu (zao ?_)))))
  exact zak ⟨.inr rfl, _, rfl, rfl⟩
-- slices.ContainsFunc[[]int,int]
def ic18 : IC := .seq (.region [oM 4 (.mov (.c (.bool false)))] none)
 (.seq (.region [oT 5 0,
  oT 6 1,
  oM 7 (.call (.c (.fn 44 [] [])) [(.t 5), (.t 6)]),
  oM 8 (.bin .geq (.t 7) (.c (.int .i64 0))),
  oT 4 8] none)
 (.ret))
theorem fn18 : env0.fn 18 = some ⟨9, ic18, [.t 4]⟩ := by kernel_rfl
theorem zry (c : List Int) (hl : c.length ≤ 1000000) (n : Nat) (E : List (List AV)) (at_ : List Int) (ha : at_.length = n) (hn : n ≤ 1000000) (k : Int) : PF Try.prog 18 [vsI c, .fn 19 [] [.vptr [.int .i64 (n : Nat), .vs E], .vptr [vsI at_], .vptr [.int .i64 k]]] (.bool (c.any (inC (n : Nat) at_ k))) := by
 have h1 := index44 c hl n E at_ ha hn k
 refine zb0 env0_ok fn18 [(0, vsI c), (1, .fn 19 [] [.vptr [.int .i64 (n : Nat), .vs E], .vptr [vsI at_], .vptr [.int .i64 k]])] (by show 2 ≤ 9; decide) rfl fun w0 N0 => ?_
 unfold ic18
 refine zsr rfl (za3 rfl (onr rfl (za3 rfl (za3 rfl ?_))))
 refine zb9 rfl rfl h1 noC ?_
 refine zb1 (op := .geq) rfl rfl rfl ?_
 rw [zp3 _ c 0 (y2m 0)]
 refine za3 rfl (onu (zao ?_))
 exact zak ⟨.inr rfl, _, rfl, rfl⟩
end Go.Proofs.Ytfbeableaihooaa
