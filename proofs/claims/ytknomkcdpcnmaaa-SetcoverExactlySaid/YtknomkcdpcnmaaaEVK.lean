/-
  A GREATEST LIST OF ELEMENTS THAT ARE APART: the search.
-/
import Derived.Test.YtknomkcdpcnmaaaEVJ
namespace Go.Proofs.Ytknomkcdpcnmaaa
open Go Go.Am
theorem bw_go {N i : Nat} (hi : i < N) (g : Nat → BitVec 64) (now : List Int) (h : BitVec 64) (b : List Int) (hb : now.length + (N - i) > b.length) :
  bw g (N - i) now i h b = bw g (N - (i + 1)) now (i + 1) h (if h.getLsbD i = true then b else bw g (N - (i + 1)) (now ++ [((i : Nat) : Int)]) (i + 1) (h ||| g i) (upd b (now ++ [((i : Nat) : Int)]))) := by
 rw [show N - i = (N - (i + 1)) + 1 by omega, bw, if_pos (by omega)]
theorem bw_stop {N i : Nat} (hi : i < N) (g : Nat → BitVec 64) (now : List Int) (h : BitVec 64) (b : List Int) (hb : ¬ now.length + (N - i) > b.length) : bw g (N - i) now i h b = b := by
 rw [show N - i = (N - (i + 1)) + 1 by omega, bw, if_neg (by omega)]
set_option maxHeartbeats 8000000 in
theorem zhj {N : Nat} {s : List (BitVec 64)} {w0 : World} {N0 bb sb wb sw r : Nat} (hN : N ≤ 64) (hbw : bb ≠ wb) (ih : ∀ r' < r, zfx N s w0 N0 bb sb wb sw r') (vs : List Int) (first c : Nat) (h : BitVec 64) (b b0 : List Int) (X : List AV) (lb sl : Nat) (H H0 : HS) (h1 : first + r = N) (h2 : vs.length ≤ first) (h3 : b.length ≤ 64) (h5 : vs.length + X.length = c) (h6 : CB N s b bb sb wb sw H) (h7 : Am.look lb H.heap = some (sl, .cells (zd9 vs X))) (h8 : lb < H.next) (h10 : lb ≠ bb) (h11 : lb ≠ wb) (hK0 : Keep (fun i => i = bb ∨ i = lb) H0 H) (hb0 : upd b0 vs = b) :
  Zm Try.prog w0 N0 (some none) (.seq (.region [⟨(some 18), .mov (.t 1), none⟩, ⟨(some 10), .mov (.t 18), none⟩] none) (.block 0 (.loop b52_0))) (st 56 (tB N s vs first c lb sl h bb sb wb sw) H.heap H.next H.clk) []
   fun e S' => (e = .normal ∨ e = .ret) ∧ ∃ v, S'.leave.res [] = some v ∧ LeftB N s bb sb wb sw lb sl vs X.length H0 (zjv N s vs first h b0) S'.leave.hs := by
 unfold zjv tB
 rw [hb0]
 repeat (first | refine za6 ?_ | refine za0 rfl ?_ | refine za3 ?_ | refine za4 ?_ | refine zai ?_ | refine za1 rfl ?_)
 refine zcr (fun mm S => ∃ i b' H' X', mm = N - i ∧ i ≤ N ∧ vs.length ≤ i ∧ first ≤ i ∧ bw (zcf s) (N - first) vs first h b = bw (zcf s) (N - i) vs i h b' ∧ b'.length ≤ 64 ∧
   vs.length + X'.length = c ∧ X'.length = X.length ∧ CB N s b' bb sb wb sw H' ∧ Am.look lb H'.heap = some (sl, .cells (zd9 vs X')) ∧ Keep (fun j => j = bb ∨ j = lb) H0 H' ∧ lb < H'.next ∧
   S = st 56 [(0, .ms lb sl 1 0 vs.length (some c)), (2, cU h), (3, .mptr bb sb 0), (4, .vptr [.int .i64 (N : Nat), .vs (cUs s)]), (5, .mptr wb sw 0), (6, .vptr [zg5 N s]), (10, .int .i64 (i : Nat))] H'.heap H'.next H'.clk) (N - first)
  (zaa (.cons rfl (.cons rfl (.cons rfl (.cons rfl (.cons rfl (.cons rfl (.cons rfl .nil)))))))) ⟨first, b, H, X, rfl, by omega, h2, Nat.le_refl _, rfl, h3, h5, rfl, h6, h7, hK0, h8, rfl⟩ ?_
 rintro mm S ⟨i, b', H', X', rfl, hi, hvi, hfi, hfold, hb3, hX, hXl, hC', hlb', hKp, hlt', rfl⟩
 have hll := zm3 vs X'
 have last : bw (zcf s) (N - i) vs i h b' = b' → LeftB N s bb sb wb sw lb sl vs X.length H0 (bw (zcf s) (N - first) vs first h b) H' := fun e => ⟨hKp, by rw [hfold, e]; exact hC', X', hXl, hlb'⟩
 unfold b52_0
 repeat (first | refine za6 ?_ | refine za0 rfl ?_ | refine za1 rfl ?_ | refine zah rfl rfl ?_ | refine za9 rfl rfl rfl ?_)
 refine zax rfl rfl rfl (fun h30 => ?_) fun h30 => ?_
 ·have hlt : i < N := Int.ofNat_lt.1 (of_decide_eq_true h30)
  have w1 : IntKind.wrap .i64 (((i : Nat) : Int) + 1) = ((i + 1 : Nat) : Int) := zb0 i (by omega)
  have w2 : IntKind.wrap .i64 (((vs.length : Nat) : Int) + (N : Nat)) = ((vs.length + N : Nat) : Int) := by rw [zdp _ (by omega) (by omega)]; omega
  have w3 : IntKind.wrap .i64 (((vs.length + N : Nat) : Int) - (i : Nat)) = ((vs.length + (N - i) : Nat) : Int) := by rw [zdp _ (by omega) (by omega)]; omega
  repeat (first | refine zcp rfl ?_ | refine za1 rfl ?_ | refine zah rfl rfl ?_ | refine za9 rfl rfl rfl ?_ | refine zbf rfl rfl ?_ | refine zac (op := .add) rfl rfl rfl ?_ | refine zac (op := .sub) rfl rfl rfl ?_)
  refine zbw rfl hC'.hb hC'.lb rfl ?_
  refine zcp rfl (zbf rfl (zt1 b') ?_)
  refine zcp rfl ?_
  refine zax rfl rfl (by show some (AV.bool (decide (IntKind.wrap .i64 (IntKind.wrap .i64 (((vs.length : Nat) : Int) + (N : Nat)) - (i : Nat)) > ((b'.length : Nat) : Int)))) = _; rw [w2, w3]) (fun h31 => ?_) fun h31 => ?_
  ·have h31 : vs.length + (N - i) > b'.length := Int.ofNat_lt.1 (of_decide_eq_true h31)
   rw [bw_go hlt _ _ _ _ h31] at hfold
   repeat (first | refine za6 ?_ | refine za0 rfl ?_ | refine za3 ?_ | refine za4 ?_ | refine zai ?_ | refine zad ?_ | refine zc1 rfl ?_ | refine za1 rfl ?_ | refine zan rfl rfl ?_)
   refine zac rfl rfl (zdg h (kd := .i64) (n := i) (by omega)) ?_
   refine zac rfl rfl (ze1 _ (1#64)) ?_
   have hz : ((h >>> i &&& 1#64) == 0#64) = !h.getLsbD i := by
    have hb1 := bit1 h i
    cases hg : h.getLsbD i with
    | true =>
     rw [hg] at hb1
     rw [eq_of_beq hb1]
     rfl
    | false =>
     have : h >>> i &&& 1#64 = 0#64 := by
      apply BitVec.eq_of_getLsbD_eq
      intro j hj
      rw [BitVec.getLsbD_and, BitVec.getLsbD_ushiftRight, BitVec.getLsbD_one, BitVec.getLsbD_zero]
      by_cases h0 : j = 0
      ·subst h0; rw [Nat.add_zero, hg]; rfl
      ·simp [h0]
     rw [this]
     rfl
   refine zax rfl rfl ((zdf _ (0#64)).trans (by rw [hz])) (fun h5 => ?_) fun h5 => ?_
   ·have h5 : h.getLsbD i = false := by simpa using h5
    rw [h5, if_neg (by decide)] at hfold
    have hng := zqe (N := N) (s := s) (z := (i : Int)) (by omega) (by omega)
    have hlv : (vs ++ [(i : Int)]).length = vs.length + 1 := by simp
    have hnd : zjv N s (vs ++ [(i : Int)]) (i + 1) (h ||| zcf s i) b' = bw (zcf s) (N - (i + 1)) (vs ++ [(i : Int)]) (i + 1) (h ||| zcf s i) (upd b' (vs ++ [(i : Int)])) := rfl
    rw [← hnd] at hfold
    have hsh : (zjv N s (vs ++ [(i : Int)]) (i + 1) (h ||| zcf s i) b').length ≤ 64 := zt8 _ _ _ _ _ _ (by rw [hlv]; omega) (zp4 hb3 (by rw [hlv]; omega))
    obtain ⟨nb, hnb⟩ : ∃ nb, zjv N s (vs ++ [(i : Int)]) (i + 1) (h ||| zcf s i) b' = nb := ⟨_, rfl⟩
    rw [hnb] at hfold hsh
    repeat (first | refine za3 ?_ | refine za4 ?_ | refine zc1 rfl ?_)
    by_cases hcc : vs.length + 1 ≤ c
    ·obtain ⟨y, X1, rfl⟩ : ∃ y X1, X' = y :: X1 := by
      cases X' with
      | nil => simp at hX; omega
      | cons y X1 => exact ⟨y, X1, rfl⟩
     refine zs6 env0_ok 13 [] (fun _ hx => absurd hx List.not_mem_nil) (fun _ => false) (fun j => Nat.beq j wb) (fun j => Nat.beq j lb) (fun j e1 e2 => h11 ((Nat.eq_of_beq_eq_true e2).symm.trans (Nat.eq_of_beq_eq_true e1))) rfl rfl rfl rfl ?_
     refine zbw rfl hC'.hw hC'.lw rfl ?_ (ldOk rfl (Nat.beq_refl wb))
     refine za1 rfl (za1 rfl (zbg rfl rfl ?_))
     refine zf7 [[.int .i64 (i : Nat)]] rfl rfl (zdj (ys := []) zav rfl (fun x hx => by obtain rfl := List.mem_singleton.1 hx; rfl)) rfl (by decide) ((zak hlt').trans hlb') ?_ (by show vs.length + 1 ≤ _; omega) hcc (zaz lb (sl, .cells (zd9 (vs ++ [(i : Int)]) X1)) ((H'.next, H'.clk, .cells [.int .i64 (i : Nat)]) :: H'.heap)) (fun _ => by rw [← zm4 (x := y)]; rfl) (fun h => Nat.noConfusion h) ?_ (zss rfl (Nat.beq_refl lb))
     ·rw [hll, Nat.mul_one]
      show vs.length + 1 ≤ vs.length + (X1.length + 1)
      omega
     refine za1 rfl (zac (op := .add) rfl rfl rfl (za1 rfl (zah rfl rfl ?_ (vpOk rfl))))
     refine za1 rfl (zba rfl rfl (Int.natCast_nonneg i) hng rfl (zah rfl rfl (zac rfl rfl (zhg _ _) (za3 (zal ⟨rfl, fun rd => ?_⟩))) (vpOk rfl)))
     rw [w1]
     have hKn : Keep (fun j => j = lb) H' ⟨zaz lb (sl, .cells (zd9 (vs ++ [(i : Int)]) X1)) ((H'.next, H'.clk, .cells [.int .i64 (i : Nat)]) :: H'.heap), H'.next + 1, H'.clk + 1⟩ := zlr (Nat.le_succ _)
     have hft := znn (ih (N - (i + 1)) (by omega)) (vs ++ [(i : Int)]) (i + 1) c (h ||| zcf s i) b' X1 lb sl ⟨zaz lb (sl, .cells (zd9 (vs ++ [(i : Int)]) X1)) ((H'.next, H'.clk, .cells [.int .i64 (i : Nat)]) :: H'.heap), H'.next + 1, H'.clk + 1⟩ (by omega) (by omega) hb3 (by have : (y :: X1).length = X1.length + 1 := rfl; omega) (hC'.keep hKn (fun e => h10 e.symm) fun e => h11 e.symm)
      (by show Am.look lb (zaz lb _ _) = _; rw [za5, if_pos rfl]) (Nat.lt_succ_of_lt hlt') h10 h11
     rw [hnb] at hft
     refine AnyF.one 13 (by decide) (zml _ rfl rfl rfl rfl (zho (by rw [hlv] at hft; exact hft)) (fun _ _ _ _ h => absurd h List.not_mem_nil) fun v H1 hF => ?_)
     obtain ⟨hk1, hC1, X2, hX2, hlb2⟩ := hF
     have hk2 : Keep (fun j => j = bb ∨ j = lb) H' H1 := (Keep.mono hKn fun j e => .inr e).trans hk1
     have hlb3 : Am.look lb H1.heap = some (sl, .cells (zd9 vs (.int .i64 (i : Nat) :: X2))) := by
      rw [hlb2]
      unfold zd9
      rw [List.map_append, List.append_assoc]
      rfl
     refine AnyF.fin (by decide) (Um.ok ?_)
     repeat (first | refine za0 rfl ?_ | refine za3 ?_ | refine za4 ?_ | refine zbj ?_ | refine za1 rfl ?_ | refine zac (op := .add) rfl rfl rfl ?_)
     rw [w1]
     exact zb4 (show N - (i + 1) < N - i by omega) (zaa (.cons rfl (.cons rfl (.cons rfl (.cons rfl (.cons rfl (.cons rfl (.cons rfl .nil)))))))) ⟨i + 1, _, H1, _, rfl, hlt, by omega, by omega, hfold, hsh, by rw [List.length_cons, hX2]; exact hX, by rw [List.length_cons, hX2]; exact hXl, hC1, hlb3, hKp.trans hk2, Nat.lt_of_lt_of_le hlt' hk2.next, rfl⟩
    ·refine zs6 env0_ok 13 [] (fun _ hx => absurd hx List.not_mem_nil) (fun _ => false) (fun j => Nat.beq j wb) (fun j => Nat.beq j lb) (fun j e1 e2 => h11 ((Nat.eq_of_beq_eq_true e2).symm.trans (Nat.eq_of_beq_eq_true e1))) rfl rfl rfl rfl ?_
     refine zbw rfl hC'.hw hC'.lw rfl ?_ (ldOk rfl (Nat.beq_refl wb))
     refine za1 rfl (za1 rfl (zbg rfl rfl ?_))
     refine zer [[.int .i64 (i : Nat)]] rfl rfl (zdj (ys := []) zav rfl (fun x hx => by obtain rfl := List.mem_singleton.1 hx; rfl)) (fun h => Nat.noConfusion h) rfl (by decide) ((zak hlt').trans hlb') (by rw [hll]; omega) (by show vs.length + 1 ≤ _; omega) (by show c < vs.length + 1; omega) ?_ (zss rfl (Nat.beq_refl lb))
     refine za1 rfl (zac (op := .add) rfl rfl rfl (za1 rfl (zah rfl rfl ?_ (vpOk rfl))))
     refine za1 rfl (zba rfl rfl (Int.natCast_nonneg i) hng rfl (zah rfl rfl (zac rfl rfl (zhg _ _) (za3 (zal ⟨rfl, fun rd => ?_⟩))) (vpOk rfl)))
     rw [w1, zji]
     have hvm : vs.map (AV.int .i64) ++ [[AV.int .i64 (i : Nat)]].flatten = (vs ++ [(i : Int)]).map (AV.int .i64) := by rw [List.map_append]; rfl
     rw [hvm]
     have l2 := hC'.lb
     have l3 := hC'.lw
     have hKn : Keep (fun _ => False) H' ⟨(H'.next + 1, H'.clk + 1, .cells ((vs ++ [(i : Int)]).map (AV.int .i64))) :: (H'.next, H'.clk, .cells [.int .i64 (i : Nat)]) :: H'.heap, H'.next + 1 + 1, H'.clk + 1 + 1⟩ := zhy (by omega)
     have hft := znm (ih (N - (i + 1)) (by omega)) (vs ++ [(i : Int)]) (i + 1) (h ||| zcf s i) b' (H'.next + 1) (H'.clk + 1) ⟨(H'.next + 1, H'.clk + 1, .cells ((vs ++ [(i : Int)]).map (AV.int .i64))) :: (H'.next, H'.clk, .cells [.int .i64 (i : Nat)]) :: H'.heap, H'.next + 1 + 1, H'.clk + 1 + 1⟩ (by omega) (by omega) hb3 (hC'.keep hKn (fun h => h) fun h => h)
      zav (Nat.lt_succ_self _) (by omega) (by omega)
     rw [hnb] at hft
     refine AnyF.one 13 (by decide) (zml _ rfl rfl rfl rfl (zho (by rw [hlv] at hft; exact hft)) (fun _ _ _ _ h => absurd h List.not_mem_nil) fun v H1 hF => ?_)
     obtain ⟨hk1, hC1⟩ := hF
     have hk2 : Keep (fun j => j = bb) H' H1 := ⟨Nat.le_trans hKn.next hk1.next, Nat.le_trans hKn.clk hk1.clk, fun j hj hj2 => (hk1.look j (fun h => h.elim hj fun e => by omega) (by show j < H'.next + 1 + 1; omega)).trans (hKn.look j (fun h => h) hj2)⟩
     have hlb3 : Am.look lb H1.heap = some (sl, .cells (zd9 vs X')) := (hk2.look lb h10 hlt').trans hlb'
     have hk2 : Keep (fun j => j = bb ∨ j = lb) H' H1 := Keep.mono hk2 fun j h => .inl h
     refine AnyF.fin (by decide) (Um.ok ?_)
     repeat (first | refine za0 rfl ?_ | refine za3 ?_ | refine za4 ?_ | refine zbj ?_ | refine za1 rfl ?_ | refine zac (op := .add) rfl rfl rfl ?_)
     rw [w1]
     exact zb4 (show N - (i + 1) < N - i by omega) (zaa (.cons rfl (.cons rfl (.cons rfl (.cons rfl (.cons rfl (.cons rfl (.cons rfl .nil)))))))) ⟨i + 1, _, H1, X', rfl, hlt, by omega, by omega, hfold, hsh, hX, hXl, hC1, hlb3, hKp.trans hk2, Nat.lt_of_lt_of_le hlt' hk2.next, rfl⟩
   ·have h5 : h.getLsbD i = true := by simpa using h5
    rw [h5, if_pos rfl] at hfold
    repeat (first | refine za0 rfl ?_ | refine za3 ?_ | refine za4 ?_ | refine zbj ?_ | refine zad ?_ | refine zbt rfl ?_ | refine za1 rfl ?_ | refine zac (op := .add) rfl rfl rfl ?_)
    rw [w1]
    exact zb4 (show N - (i + 1) < N - i by omega) (zaa (.cons rfl (.cons rfl (.cons rfl (.cons rfl (.cons rfl (.cons rfl (.cons rfl .nil)))))))) ⟨i + 1, b', H', X', rfl, hlt, by omega, by omega, hfold, hb3, hX, hXl, hC', hlb', hKp, hlt', rfl⟩
  ·have h31 : ¬ vs.length + (N - i) > b'.length := fun h => of_decide_eq_false h31 (Int.ofNat_lt.2 h)
   repeat (first | refine za3 ?_ | refine za4 ?_ | refine zbt rfl ?_ | refine zbc ?_ | refine zaf ?_ | refine zan rfl rfl ?_)
   refine ze6 ?_
   repeat (first | refine zbb ?_)
   exact zal ⟨.inl rfl, _, rfl, last (bw_stop hlt _ _ _ _ h31)⟩
 ·have hi2 : i = N := by
   have : ¬ i < N := fun h => of_decide_eq_false h30 (Int.ofNat_lt.2 h)
   omega
  repeat (first | refine za3 ?_ | refine za4 ?_ | refine zbt rfl ?_ | refine zbc ?_ | refine zaf ?_ | refine zh8 rfl rfl ?_ | refine za1 rfl ?_ | refine zam rfl rfl ?_)
  refine ze6 ?_
  repeat (first | refine zbb ?_)
  exact zal ⟨.inl rfl, _, rfl, last (by rw [hi2, Nat.sub_self]; rfl)⟩
theorem bcl_upd {b vs : List Int} (h : vs.length > b.length) : bcl (upd b vs) = vsI vs := by
 unfold upd bcl
 rw [if_pos h, if_neg (by omega)]
theorem upd_not {b vs : List Int} (h : ¬ vs.length > b.length) : upd b vs = b := if_neg h
set_option maxHeartbeats 4000000 in
theorem zno {N : Nat} {s : List (BitVec 64)} {w0 : World} {N0 bb sb wb sw r : Nat} (hN : N ≤ 64) (hbw : bb ≠ wb) (ih : ∀ r' < r, zfx N s w0 N0 bb sb wb sw r') : zfx N s w0 N0 bb sb wb sw r := by
 intro vs first c h b X lb sl H h1 h2 h3 h5 h6 h7 h8 h10 h11
 have pC := zo6 vs (by omega)
 have hv : ∀ (l : List (Nat × AV)), (st 56 l H.heap H.next H.clk).view VD (AV.ms lb sl 1 0 vs.length (some c)) = vsI vs := fun l => zgv (d := 3) vs rfl h7
 unfold ic52
 refine za6 ?_
 unfold tB
 repeat (first | refine za6 ?_ | refine za0 rfl ?_ | refine za1 rfl ?_ | refine zbf rfl rfl ?_)
 refine zbw rfl h6.hb h6.lb rfl ?_
 refine zbf rfl (zt1 b) ?_
 refine zax rfl rfl rfl (fun hg => ?_) fun hg => ?_
 ·have hg : vs.length > b.length := Int.ofNat_lt.1 (of_decide_eq_true hg)
  refine za3 (za4 (zc1 rfl (za0 rfl (za1 rfl ?_))))
  refine zqg (vs := [AV.ms lb sl 1 0 vs.length (some c)]) rfl (by rw [List.map_singleton, hv]) pC ?_
  refine zb9 (id := bb) (sp := sb) (off := 0) rfl rfl rfl rfl h6.hb rfl rfl ?_
  refine za3 (za4 ?_)
  have hK : Keep (fun j => j = bb) H ⟨zaz bb (sb, .cells (setAt 0 [bcl b] [vsI vs])) H.heap, H.next, H.clk⟩ := ⟨Nat.le_refl _, Nat.le_refl _, fun j hj _ => by
   show Am.look j (zaz bb _ H.heap) = _
   rw [za5, if_neg fun e => hj e.symm]⟩
  refine zhr (zaa (l' := tB N s vs first c lb sl h bb sb wb sw) (.cons rfl (.cons rfl (.cons rfl (.cons rfl (.cons rfl (.cons rfl (.cons rfl .nil)))))))) ?_
  exact zhj hN hbw ih vs first c h (upd b vs) b X lb sl ⟨zaz bb (sb, .cells (setAt 0 [bcl b] [vsI vs])) H.heap, H.next, H.clk⟩ H h1 h2 (zp4 h3 (by omega)) h5
   ⟨by show Am.look bb (zaz bb _ H.heap) = _; rw [za5, if_pos rfl, bcl_upd hg]; rfl, (hK.look wb (fun e => hbw e.symm) h6.lw).trans h6.hw, h6.lb, h6.lw⟩ ((hK.look lb h10 h8).trans h7) h8 h10 h11 (Keep.mono hK fun j e => .inl e) rfl
 ·have hg : ¬ vs.length > b.length := fun h => of_decide_eq_false hg (Int.ofNat_lt.2 h)
  refine za3 (za4 (zbt rfl (zad (za4 ?_))))
  refine zhr (zaa (l' := tB N s vs first c lb sl h bb sb wb sw) (.cons rfl (.cons rfl (.cons rfl (.cons rfl (.cons rfl (.cons rfl (.cons rfl .nil)))))))) ?_
  exact zhj hN hbw ih vs first c h b b X lb sl H H h1 h2 h3 h5 h6 h7 h8 h10 h11 (.refl _ _) (upd_not hg)
theorem zox {N : Nat} {s : List (BitVec 64)} {w0 : World} {N0 bb sb wb sw : Nat} (hN : N ≤ 64) (hbw : bb ≠ wb) (r : Nat) : zfx N s w0 N0 bb sb wb sw r := by
 induction r using Nat.strongRecOn with
 | _ r ih => exact zno hN hbw ih
def bouE (n : Int) (s : List (BitVec 64)) : Int := if zn9 n s = 0 then (if n > 16 then 12 else 0) else zn9 n s
def bouL (N : Nat) (s : List (BitVec 64)) : List Int := zjv N s [] 0 0 []
def bouV (n : Int) (s : List (BitVec 64)) : AV := if bouE n s = 0 then .tup [vsI (bouL n.toNat s), .int .i64 0] else .tup [.vs [], .int .i64 (bouE n s)]
theorem view_bcl {S : AS} {d : Nat} (b : List Int) : S.view (d + 1) (bcl b) = vsI b := by
 unfold bcl
 split
 ·rename_i h
  rw [List.length_eq_zero_iff.1 h]
  rfl
 ·exact zr1 b
set_option maxHeartbeats 2000000 in
theorem bound19 (n : Int) (s : List (BitVec 64)) : PF Try.prog 19 [cF n s] (bouV n s) := by
 have pL := zj5 n s
 refine zbd env0_ok fn19 [(0, cF n s)] (by show 1 ≤ 22; decide) rfl fun w0 N0 => ?_
 unfold ic19 bouV bouE
 refine za6 (za0 rfl (zd7 (cs := [.int .i64 n, .vs (cUs s)]) rfl rfl (za1 rfl (za1 rfl (za3 (za4 ?_))))))
 refine zd0 [] [(0, 0, [.int .i64 n, .vs (cUs s)])] [(1, .vptr [.int .i64 n, .vs (cUs s)])] rfl (.cons rfl rfl .nil) .nil (.cons rfl (.fptr rfl rfl) .nil) ?_
 repeat (first | refine za6 ?_ | refine za0 rfl ?_ | refine zb2 rfl rfl rfl rfl ?_)
 refine zay rfl rfl pL (fun h => Bool.noConfusion (show false = true from h)) ?_
 by_cases hl : zn9 n s = 0
 ·obtain ⟨hc, h16⟩ := zuq hl
  obtain ⟨n0, n1, s1, _⟩ := zf2 hc
  rw [if_pos hl, hl]
  repeat (first | refine za6 ?_ | refine za0 rfl ?_ | refine za3 ?_ | refine za4 ?_ | refine zad ?_ | refine zbt rfl ?_ | refine za1 rfl ?_ | refine zah rfl rfl ?_ | refine za9 rfl rfl rfl ?_ | refine zb5 rfl rfl rfl ?_)
  refine zax rfl rfl rfl (fun h => ?_) fun h => ?_
  ·have h : n > 16 := of_decide_eq_true h
   rw [if_pos h, if_neg (by decide)]
   repeat (first | refine za6 ?_ | refine za0 rfl ?_ | refine za3 ?_ | refine za4 ?_ | refine zc1 rfl ?_ | refine zas ?_ | refine za8 ?_ | refine za1 rfl ?_)
   exact zal ⟨.inr rfl, _, rfl, rfl⟩
  have h : ¬ n > 16 := of_decide_eq_false h
  rw [if_neg h, if_pos rfl]
  obtain ⟨N, rfl⟩ : ∃ N : Nat, n = (N : Int) := ⟨n.toNat, by omega⟩
  have pN := near49 N (by omega) s (by omega)
  rw [Int.toNat_natCast]
  repeat (first | refine za6 ?_ | refine za0 rfl ?_ | refine za3 ?_ | refine za4 ?_ | refine zad ?_ | refine zbt rfl ?_ | refine zb2 rfl rfl rfl rfl ?_)
  refine zqg rfl rfl pN ?_
  refine zc2 (zb9 rfl rfl rfl rfl zav rfl rfl ?_)
  rw [zgp]
  refine za3 (za4 ?_)
  refine zd0 [] [(0, 1, [zg5 N s])] [(1, .vptr [.int .i64 (N : Nat), .vs (cUs s)]), (5, .vptr [zg5 N s])] rfl (.cons rfl rfl .nil) .nil (.cons rfl (.same rfl) (.cons rfl (.fptr rfl rfl) .nil)) ?_
  have hS := zox (N := N) (s := s) (w0 := w0) (N0 := N0) (bb := 0) (sb := 1) (wb := 1) (sw := 2) (by omega) (by decide) N
  repeat (first | refine za6 ?_ | refine za0 rfl ?_ | refine za3 ?_ | refine za4 ?_ | refine zah rfl rfl ?_ | refine zb9 rfl rfl rfl rfl rfl rfl rfl ?_ | refine zc2 ?_ | refine zdy rfl rfl ?_)
  refine o_ct (fv := .fn 52 [] [.mptr 0 1 0, .vptr [.int .i64 (N : Nat), .vs (cUs s)], .mptr 1 2 0, .vptr [zg5 N s]]) _ rfl rfl (zho (znl hS _ ?_)) (fun _ _ _ _ h => absurd h List.not_mem_nil) fun v H1 hF => ?_
  ·exact ⟨rfl, rfl, (show 0 < 2 by decide), (show 1 < 2 by decide)⟩
  obtain ⟨hk, hC⟩ := hF
  repeat (first | refine za6 ?_ | refine za0 rfl ?_ | refine za3 ?_ | refine za4 ?_)
  refine zbw rfl hC.hb hC.lb rfl ?_
  repeat (first | refine za3 ?_ | refine za4 ?_ | refine zas ?_ | refine za1 rfl ?_)
  exact zal ⟨.inr rfl, _, rfl, congrArg AV.tup (zva (view_bcl (d := 2) _) rfl)⟩
 ·rw [if_neg hl, if_neg hl]
  repeat (first | refine za6 ?_ | refine za0 rfl ?_ | refine za3 ?_ | refine za4 ?_ | refine za1 rfl ?_)
  refine zax rfl rfl rfl (fun h => ?_) fun h => absurd (by simpa using h) hl
  repeat (first | refine za6 ?_ | refine za0 rfl ?_ | refine za3 ?_ | refine za4 ?_ | refine zc1 rfl ?_ | refine zas ?_ | refine za8 ?_ | refine za1 rfl ?_)
  exact zal ⟨.inr rfl, _, rfl, rfl⟩
end Go.Proofs.Ytknomkcdpcnmaaa
