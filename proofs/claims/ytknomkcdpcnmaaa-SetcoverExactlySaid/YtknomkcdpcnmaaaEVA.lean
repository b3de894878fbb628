/-
  ALL CHOICES: ranging over them.
-/
import Derived.Test.YtknomkcdpcnmaaaEV9
namespace Go.Proofs.Ytknomkcdpcnmaaa
open Go Go.Am
theorem zgz {n : Nat} : ∀ {k f : Nat} {c : List Int}, c ∈ asc n k f → c.length = k ∧ (∀ z ∈ c, (f : Int) ≤ z ∧ z < n)
 | 0, f, c, h => by
  obtain rfl := List.mem_singleton.1 h
  exact ⟨rfl, fun z hz => absurd hz List.not_mem_nil⟩
 | k + 1, f, c, h => by
  rw [asc, List.mem_flatMap] at h
  obtain ⟨i, hi, h⟩ := h
  rw [List.mem_range'_1] at hi
  obtain ⟨d, hd, rfl⟩ := List.mem_map.1 h
  obtain ⟨h1, h2⟩ := zgz hd
  refine ⟨by rw [List.length_cons, h1], fun z hz => ?_⟩
  rcases List.mem_cons.1 hz with rfl | hz
  ·omega
  ·have := h2 z hz; omega
theorem zpe {α σ τ : Type} {step : σ → α → σ ⊕ τ} {Pr : α → Prop} : ∀ (l : List α) (s : σ), (∀ x ∈ l, Pr x) → zhl step (fun _ x => Pr x) l s
 | [], _, _ => trivial
 | x :: l, s, h => ⟨h x (List.mem_cons_self ..), fun s' _ => zpe l s' fun y hy => h y (List.mem_cons_of_mem _ hy)⟩
section
variable {σ τ : Type} {step : σ → List Int → σ ⊕ τ} {M : Nat → Prop} {I : σ → HS → Prop} {J : τ → HS → Prop}
theorem zr2 {Pr : σ → List Int → Prop} {w0 : World} {N0 K N id sp yb sy wb sw : Nat} (hK : K ≤ 1000000) (hN : N ≤ 1000000) (hloc : Local M I) (ny : ¬ M yb) (nw : ¬ M wb) (hy : ∀ s l H, Pr s l → I s H → CT Try.prog w0 N0 (.yield id sp) [vsI l] H (Left M I J H (step s l))) : ∀ r, Walk step M I J Pr w0 N0 K N id sp yb sy wb sw r
 | 0 => zwc hK hloc ny nw hy
 | r + 1 => zwb hK hN hloc ny nw (zr2 hK hN hloc ny nw hy r)
set_option maxHeartbeats 1000000 in
theorem zw8 {Pr : σ → List Int → Prop} {w0 : World} {N0 K N id sp yb sy wb sw : Nat} (hloc : Local M I) (h : Walk step M I J Pr w0 N0 K N id sp yb sy wb sw K) (H : HS) (s : σ) (h4 : CW K N id sp yb sy wb sw H) (h10 : I s H) (h11 : zhl step Pr (asc N K 0) s) :
  FT Try.prog w0 N0 68 [.nils, .int .i64 0, .vptr [.int .i64 (K : Nat)], .mptr yb sy 0, .vptr [.int .i64 (N : Nat)], .mptr wb sw 0] H (Left M I J H (ze9 step (asc N K 0) s)) := by
 refine zcs env0_ok fn68 [(0, .nils), (1, .int .i64 0), (2, .vptr [.int .i64 (K : Nat)]), (3, .mptr yb sy 0), (4, .vptr [.int .i64 (N : Nat)]), (5, .mptr wb sw 0)] (by show 6 ≤ 38; decide) rfl ?_
 refine zr4 0 1 rfl ?_
 refine zku 0 rfl zav rfl fun c hc => ?_
 refine zhr (zaa (l' := [(0, .ms H.next H.clk 1 0 0 (some c)), (1, .int .i64 ((0 : Nat) : Int)), (2, .vptr [.int .i64 (K : Nat)]), (3, .mptr yb sy 0), (4, .vptr [.int .i64 (N : Nat)]), (5, .mptr wb sw 0)]) (.cons rfl (.cons rfl (.cons rfl (.cons rfl (.cons rfl (.cons rfl .nil))))))) ?_
 rw [zgp]
 have hb : beh [] (asc N K 0) = asc N K 0 := by unfold beh; simp
 have hKn : Keep (fun _ => False) H ⟨(H.next, H.clk, .cells (zd9 [] (List.replicate (c - 0) .top))) :: H.heap, H.next + 1, H.clk + 1⟩ := Keep.new _ _ _
 have hz := h [] 0 c (List.replicate (c - 0) .top) H.next H.clk ⟨(H.next, H.clk, .cells (zd9 [] (List.replicate (c - 0) .top))) :: H.heap, H.next + 1, H.clk + 1⟩ s (Nat.zero_add _) (Nat.zero_le _) (by rw [List.length_replicate]; simp) (h4.keep hKn (fun h => h) fun h => h) zav (Nat.lt_succ_self _)
  (fun h => Nat.lt_irrefl _ (hloc.lt s H h10 _ h)) (fun e => by have := h4.ly; omega) (fun e => by have := h4.lw; omega) (hloc.new h10 _ _) (by rw [hb]; exact h11)
 rw [hb] at hz
 refine zkv hz fun e S' ⟨he, v, hv, ⟨hk, hm⟩, _⟩ => ⟨he, v, hv, ⟨Nat.le_trans (Nat.le_succ _) hk.next, Nat.le_trans (Nat.le_succ _) hk.clk, fun i hi hi2 => (hk.look i (fun h => h.elim hi fun e => by omega) (by show i < H.next + 1; omega)).trans (zak hi2)⟩, hm⟩
set_option maxHeartbeats 1000000 in
theorem range67 {Pr : σ → List Int → Prop} {w0 : World} {N0 K N id sp : Nat} (hK : K ≤ 1000000) (hN : N ≤ 1000000) (hloc : Local M I) (hy : ∀ s l H, Pr s l → I s H → CT Try.prog w0 N0 (.yield id sp) [vsI l] H (Left M I J H (step s l))) (H : HS) (s : σ) (hI : I s H) (hal : zhl step Pr (asc N K 0) s) :
  FT Try.prog w0 N0 67 [.yield id sp, .vptr [.int .i64 (K : Nat)], .vptr [.int .i64 (N : Nat)]] H fun _ H' => Keep M H H' ∧ match ze9 step (asc N K 0) s with
   | .inl s' => I s' H'
   | .inr t => J t H' := by
 have hlt := hloc.lt s H hI
 refine zcs env0_ok fn67 [(0, .yield id sp), (1, .vptr [.int .i64 (K : Nat)]), (2, .vptr [.int .i64 (N : Nat)])] (by show 3 ≤ 8; decide) rfl ?_
 unfold ic67
 refine za6 (za0 rfl (zd7 rfl rfl (za3 (za4 (za6 (za0 rfl (zc2 (za3 (za4 (za6 (za0 rfl (zdy rfl rfl ?_))))))))))))
 refine zb9 rfl rfl rfl rfl zav rfl rfl ?_
 rw [zgp]
 refine za3 (za4 (za0 rfl ?_))
 refine zbw rfl zav (Nat.lt_succ_self _) rfl ?_
 have ny : ¬ M H.next := fun h => Nat.lt_irrefl _ (hlt _ h)
 have nw : ¬ M (H.next + 1) := fun h => by have := hlt _ h; omega
 have hW := zr2 (step := step) (J := J) (sy := H.clk) (sw := H.clk + 1) hK hN hloc ny nw hy K
 have hC : CW K N id sp H.next H.clk (H.next + 1) (H.clk + 1) ⟨(H.next + 1, H.clk + 1, .cells [.fn 68 [] [.vptr [.int .i64 (K : Nat)], .mptr H.next H.clk 0, .vptr [.int .i64 (N : Nat)], .mptr (H.next + 1) (H.clk + 1) 0]]) :: (H.next, H.clk, .cells [.yield id sp]) :: H.heap, H.next + 1 + 1, H.clk + 1 + 1⟩ :=
  ⟨(zak (Nat.lt_succ_self _)).trans zav, zav, by show H.next < H.next + 1 + 1; omega, Nat.lt_succ_self _⟩
 have hK2 : Keep (fun _ => False) H ⟨(H.next + 1, H.clk + 1, .cells [.fn 68 [] [.vptr [.int .i64 (K : Nat)], .mptr H.next H.clk 0, .vptr [.int .i64 (N : Nat)], .mptr (H.next + 1) (H.clk + 1) 0]]) :: (H.next, H.clk, .cells [.yield id sp]) :: H.heap, H.next + 1 + 1, H.clk + 1 + 1⟩ := zhy (by omega)
 have hft := zw8 hloc hW _ s hC (hloc.of s H _ hI hK2.next fun j hj => hK2.look j (fun h => h) (hlt j hj)) hal
 refine o_ct _ rfl rfl (zho hft) (fun _ _ _ _ h => absurd h List.not_mem_nil) fun v H1 ⟨hk, hm⟩ => ?_
 refine za3 (zal ⟨.inl rfl, _, rfl, ⟨Nat.le_trans hK2.next hk.next, Nat.le_trans hK2.clk hk.clk, fun i hi hi2 => (hk.look i hi (by show i < H.next + 1 + 1; omega)).trans (hK2.look i (fun h => h) hi2)⟩, ?_⟩)
 cases hf : ze9 step (asc N K 0) s with
 | inr t => rw [hf] at hm; exact hm.2
 | inl s' => rw [hf] at hm; exact hm.2
end
end Go.Proofs.Ytknomkcdpcnmaaa
