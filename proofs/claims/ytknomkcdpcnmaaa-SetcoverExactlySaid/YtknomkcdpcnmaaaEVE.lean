/-
  EXACT COVERS: what is done where one is found.
-/
import Derived.Test.YtknomkcdpcnmaaaEVD
namespace Go.Proofs.Ytknomkcdpcnmaaa
open Go Go.Am
theorem zh0 {b : List Int × Nat} (h : b.2 ≠ 0) : bcell b = vsI b.1 := if_neg h
set_option maxHeartbeats 4000000 in
theorem foundE {n : Int} {s : List (BitVec 64)} {w0 : World} {N0 nb sn bb sb wb sw : Nat} (hc0 : ze8 n s = 0) (hnb : nb ≠ bb) (hnw : nb ≠ wb) (hbw : bb ≠ wb) (vs : List Int) (first c : Nat) (h : BitVec 64) (b : List Int × Nat) (X : List AV) (lb sl : Nat) (H : HS) (h2 : vs.length ≤ 64) (h3 : b.1.length ≤ 64) (h4 : b.2 + 1 ≤ 1000000) (h6 : CE n s b nb sn bb sb wb sw H) (h7 : Am.look lb H.heap = some (sl, .cells (zd9 vs X))) (h8 : lb < H.next) (h9 : lb ≠ nb) (h10 : lb ≠ bb) (h11 : lb ≠ wb) (hA : (h == zce n) = true) :
  Zm Try.prog w0 N0 (some none) ic42 (st 75 (tE n s vs first c lb sl h nb sn bb sb wb sw) H.heap H.next H.clk) []
   fun e S' => (e = .normal ∨ e = .ret) ∧ ∃ v, S'.leave.res [] = some v ∧ zr5 n s nb sn bb sb wb sw lb sl vs X.length H (zbu b vs) S'.leave.hs := by
 obtain ⟨n0, n1, s1, _⟩ := zf2 hc0
 have pA := zsm n0 n1
 have pC := zo6 vs (by omega)
 have pM := cmp44 vs b.1 (by omega)
 have hv : ∀ (l : List (Nat × AV)) (hp : List (Nat × Nat × AObj)) (nx ck : Nat), Am.look lb hp = some (sl, .cells (zd9 vs X)) → (st 75 l hp nx ck).view VD (AV.ms lb sl 1 0 vs.length (some c)) = vsI vs := fun l hp nx ck hk => zgv (d := 3) vs rfl hk
 have w1 : IntKind.wrap .i64 ((b.2 : Int) + 1) = ((b.2 + 1 : Nat) : Int) := zb0 _ (by omega)
 have tail : ∀ (l : List (Nat × AV)) (y : IC) (b1 : List Int), zbm 4 l = some (.mptr nb sn 0) → ∀ H1, Keep (fun i => i = bb) H H1 → Am.look bb H1.heap = some (sb, .cells [vsI b1]) →  zbu b vs = (b1, b.2 + 1) →
   Zm Try.prog w0 N0 (some none) (.seq (.region [⟨(some 41), .load none (.t 4), none⟩, ⟨(some 42), .bin .add (.t 41) (.c (.int .i64 1)), none⟩, ⟨none, .store 1 (.t 4) (.t 42), none⟩] none) (.ret)) (st 75 l H1.heap H1.next H1.clk) [.seq y]
    fun e S' => (e = .normal ∨ e = .ret) ∧ ∃ v, S'.leave.res [] = some v ∧ zr5 n s nb sn bb sb wb sw lb sl vs X.length H (zbu b vs) S'.leave.hs := by
  intro l y b1 e4 H1 hk hb1 hs
  have hn1 : Am.look nb H1.heap = some (sn, .cells [.int .i64 (b.2 : Nat)]) := (hk.look nb (fun e => hnb e) h6.ln).trans h6.hn
  have hl1 : nb < H1.next := Nat.lt_of_lt_of_le h6.ln hk.next
  refine za6 (za0 rfl ?_)
  refine zbw e4 hn1 hl1 rfl ?_
  refine zac (op := .add) rfl rfl rfl ?_
  rw [w1]
  refine zb9 (id := nb) (sp := sn) (off := 0) e4 rfl rfl rfl hn1 rfl rfl ?_
  refine za3 (za4 (zas (za8 (zal ⟨.inr rfl, _, rfl, ?_⟩))))
  rw [hs]
  have hk2 : Keep (fun i => i = nb ∨ i = bb ∨ i = lb) H ⟨zaz nb (sn, .cells (setAt 0 [AV.int .i64 (b.2 : Nat)] [AV.int .i64 ((b.2 + 1 : Nat) : Int)])) H1.heap, H1.next, H1.clk⟩ := ⟨hk.next, hk.clk, fun i hi hi2 => by
   show Am.look i (zaz nb _ H1.heap) = _
   rw [za5, if_neg fun e => hi (.inl e.symm)]
   exact hk.look i (fun e => hi (.inr (.inl e))) hi2⟩
  refine ⟨hk2, ⟨?_, ?_, ?_, hl1, Nat.lt_of_lt_of_le h6.lb hk.next, Nat.lt_of_lt_of_le h6.lw hk.next⟩, X, rfl, ?_⟩
  ·show Am.look nb (zaz nb _ H1.heap) = _
   rw [za5, if_pos rfl]
   rfl
  ·show Am.look bb (zaz nb _ H1.heap) = _
   rw [za5, if_neg hnb, hb1]
   rfl
  ·exact (hk2.look wb (fun e => e.elim (fun e => hnw e.symm) fun e => e.elim (fun e => hbw e.symm) fun e => h11 e.symm) h6.lw).trans h6.hw
  ·show Am.look lb (zaz nb _ H1.heap) = _
   rw [za5, if_neg fun e => h9 e.symm]
   exact (hk.look lb h10 h8).trans h7
 have put5 : ∀ (l : List (Nat × AV)) (y : IC), zbm 0 l = some (.ms lb sl 1 0 vs.length (some c)) → zbm 4 l = some (.mptr nb sn 0) → zbm 5 l = some (.mptr bb sb 0) → zbm 38 l = some (.bool true) → zbu b vs = (vs, b.2 + 1) →
   Zm Try.prog w0 N0 (some none) (.cond (.t 38) (.region [⟨(some 39), .mov (.t 0), none⟩, ⟨(some 40), .call (.c (.fn 45 [] [])) [(.t 39)], none⟩, ⟨none, .store 1 (.t 5) (.t 40), none⟩] none) (.skip)) (st 75 l H.heap H.next H.clk) [.seq (.seq (.region [⟨(some 41), .load none (.t 4), none⟩, ⟨(some 42), .bin .add (.t 41) (.c (.int .i64 1)), none⟩, ⟨none, .store 1 (.t 4) (.t 42), none⟩] none) (.ret)), .seq y]
    fun e S' => (e = .normal ∨ e = .ret) ∧ ∃ v, S'.leave.res [] = some v ∧ zr5 n s nb sn bb sb wb sw lb sl vs X.length H (zbu b vs) S'.leave.hs := by
  intro l y e0 e4 e5 e38 hs
  refine zc1 e38 (za0 rfl ?_)
  refine za1 e0 ?_
  refine zqg (vs := [AV.ms lb sl 1 0 vs.length (some c)]) rfl (by rw [List.map_singleton, hv _ _ _ _ h7]) pC ?_
  refine zb9 (id := bb) (sp := sb) (off := 0) e5 rfl rfl rfl h6.hb rfl rfl ?_
  refine za3 (za4 (tail ((40, vsI vs) :: (39, .ms lb sl 1 0 vs.length (some c)) :: l) y vs e4 ⟨zaz bb (sb, .cells (setAt 0 [bcell b] [vsI vs])) H.heap, H.next, H.clk⟩ ⟨Nat.le_refl _, Nat.le_refl _, fun i hi _ => by show Am.look i (zaz bb _ H.heap) = _; rw [za5, if_neg fun e => hi e.symm]⟩ (by show Am.look bb (zaz bb _ H.heap) = _; rw [za5, if_pos rfl]; rfl) hs))
 have skip5 : ∀ (l : List (Nat × AV)) (y : IC), b.2 ≠ 0 → zbm 4 l = some (.mptr nb sn 0) → zbm 38 l = some (.bool false) → zbu b vs = (b.1, b.2 + 1) →
   Zm Try.prog w0 N0 (some none) (.cond (.t 38) (.region [⟨(some 39), .mov (.t 0), none⟩, ⟨(some 40), .call (.c (.fn 45 [] [])) [(.t 39)], none⟩, ⟨none, .store 1 (.t 5) (.t 40), none⟩] none) (.skip)) (st 75 l H.heap H.next H.clk) [.seq (.seq (.region [⟨(some 41), .load none (.t 4), none⟩, ⟨(some 42), .bin .add (.t 41) (.c (.int .i64 1)), none⟩, ⟨none, .store 1 (.t 4) (.t 42), none⟩] none) (.ret)), .seq y]
    fun e S' => (e = .normal ∨ e = .ret) ∧ ∃ v, S'.leave.res [] = some v ∧ zr5 n s nb sn bb sb wb sw lb sl vs X.length H (zbu b vs) S'.leave.hs := by
  intro l y hb e4 e38 hs
  exact zbt e38 (zad (za4 (tail l y b.1 e4 H (.refl _ _) (by rw [← zh0 hb]; exact h6.hb) hs)))
 unfold ic42 tE
 repeat (first | refine za6 ?_ | refine za0 rfl ?_ | refine za1 rfl ?_ | refine zah rfl rfl ?_ | refine za9 rfl rfl rfl ?_)
 refine zay rfl rfl pA (fun h => Bool.noConfusion (show false = true from h)) ?_
 refine zbr rfl rfl ((zdf _ _).trans (by rw [hA])) ?_
 repeat (first | refine za6 ?_ | refine za0 rfl ?_ | refine za3 ?_ | refine za4 ?_ | refine zc1 rfl ?_)
 refine zbw rfl h6.hn h6.ln rfl ?_
 by_cases hb0 : b.2 = 0
 ·refine zbr rfl rfl (by show some (AV.bool ((b.2 : Int) == 0)) = _; rw [hb0]; rfl) ?_
  repeat (first | refine za3 ?_ | refine za4 ?_ | refine zh8 rfl rfl ?_ | refine zrp rfl ?_ | refine za1 rfl ?_ | refine zan rfl rfl ?_)
  exact put5 _ _ rfl rfl rfl rfl (by unfold zbu; rw [if_pos hb0])
 have hbv : zuo false (vsI b.1) = some (.int .i64 (b.1.length : Nat)) := by
  show some (AV.int .i64 ((b.1.map fun z => ([.int .i64 z] : List AV)).length : Nat)) = _
  rw [List.length_map]
 have h6b : Am.look bb H.heap = some (sb, .cells [vsI b.1]) := by rw [← zh0 hb0]; exact h6.hb
 refine zb5 rfl rfl (by show some (AV.bool ((b.2 : Int) == 0)) = _; rw [show ((b.2 : Int) == 0) = false by rw [beq_eq_false_iff_ne]; omega]) ?_
 repeat (first | refine zcp rfl ?_ | refine za1 rfl ?_ | refine zbf rfl rfl ?_)
 refine zbw rfl h6b h6.lb rfl ?_
 refine zcp rfl (zbf rfl hbv ?_)
 refine zcp rfl ?_
 refine zax rfl rfl rfl (fun hl => ?_) fun hl => ?_
 ·have hl : vs.length < b.1.length := Int.ofNat_lt.1 (of_decide_eq_true hl)
  repeat (first | refine za3 ?_ | refine za4 ?_ | refine zh8 rfl rfl ?_ | refine zrp rfl ?_ | refine za1 rfl ?_ | refine zan rfl rfl ?_ | refine zam rfl rfl ?_)
  exact put5 _ _ rfl rfl rfl rfl (by unfold zbu; rw [if_neg hb0, if_pos hl])
 have hl : ¬ vs.length < b.1.length := fun h => of_decide_eq_false hl (Int.ofNat_lt.2 h)
 repeat (first | refine zcp rfl ?_ | refine za1 rfl ?_ | refine zam rfl rfl ?_ | refine zbf rfl rfl ?_)
 refine zbw rfl h6b h6.lb rfl ?_
 refine zcp rfl (zbf rfl hbv ?_)
 refine zcp rfl ?_
 refine zax rfl rfl rfl (fun he => ?_) fun he => ?_
 ·have he : vs.length = b.1.length := by
   have := eq_of_beq he
   omega
  repeat (first | refine zcp rfl ?_ | refine za1 rfl ?_)
  refine zbw rfl h6b h6.lb rfl ?_
  refine zcp rfl ?_
  refine zay (vs := [AV.ms lb sl 1 0 vs.length (some c), vsI b.1]) rfl (show [AV.ms lb sl 1 0 vs.length (some c), vsI b.1].map _ = [vsI vs, vsI b.1] from by rw [List.map_cons, List.map_singleton, hv _ _ _ _ h7, zr1]) pM (fun _ => rfl) ?_
  refine zcp rfl ?_
  refine zax rfl rfl rfl (fun hm => ?_) fun hm => ?_
  ·have hm : zmh vs b.1 < 0 := of_decide_eq_true hm
   repeat (first | refine za3 ?_ | refine za4 ?_ | refine zcp rfl ?_ | refine zan rfl rfl ?_ | refine zam rfl rfl ?_)
   exact put5 _ _ rfl rfl rfl rfl (by unfold zbu; rw [if_neg hb0, if_neg hl, if_pos he, if_pos hm])
  ·have hm : ¬ zmh vs b.1 < 0 := of_decide_eq_false hm
   repeat (first | refine za3 ?_ | refine za4 ?_ | refine zcp rfl ?_ | refine zan rfl rfl ?_ | refine zam rfl rfl ?_)
   exact skip5 _ _ hb0 rfl rfl (by unfold zbu; rw [if_neg hb0, if_neg hl, if_pos he, if_neg hm])
 ·have he : ¬ vs.length = b.1.length := fun e => by rw [e] at he; simp at he
  repeat (first | refine za3 ?_ | refine za4 ?_ | refine zcp rfl ?_ | refine zh8 rfl rfl ?_ | refine za1 rfl ?_ | refine zam rfl rfl ?_)
  exact skip5 _ _ hb0 rfl rfl (by unfold zbu; rw [if_neg hb0, if_neg hl, if_neg he])
end Go.Proofs.Ytknomkcdpcnmaaa
