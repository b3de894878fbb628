/-
  ALL CHOICES: the walk.
-/
import Derived.Test.YtknomkcdpcnmaaaEV7
namespace Go.Proofs.Ytknomkcdpcnmaaa
open Go Go.Am
theorem zlr {lb ck : Nat} {H : HS} {o o2 : Nat × AObj} (hck : H.clk ≤ ck) : Keep (fun j => j = lb) H ⟨zaz lb o ((H.next, o2) :: H.heap), H.next + 1, ck⟩ := ⟨Nat.le_succ _, hck, fun j hj hj2 => by
 show Am.look j (zaz lb o ((H.next, o2) :: H.heap)) = _
 rw [za5, if_neg (fun e => hj e.symm), zak hj2]⟩
theorem zhy {M : Nat → Prop} {ck : Nat} {H : HS} {o o2 : Nat × AObj} (hck : H.clk ≤ ck) : Keep M H ⟨(H.next + 1, o) :: (H.next, o2) :: H.heap, H.next + 1 + 1, ck⟩ := ⟨by show H.next ≤ H.next + 1 + 1; omega, hck, fun j _ hj2 => by
 show Am.look j ((H.next + 1, o) :: (H.next, o2) :: H.heap) = _
 rw [zak (by omega), zak hj2]⟩
section
variable {σ τ : Type} {step : σ → List Int → σ ⊕ τ} {M : Nat → Prop} {I : σ → HS → Prop} {J : τ → HS → Prop}
set_option maxHeartbeats 4000000 in
theorem zwc {Pr : σ → List Int → Prop} {w0 : World} {N0 K N id sp yb sy wb sw : Nat} (hK : K ≤ 1000000) (hloc : Local M I) (ny : ¬ M yb) (nw : ¬ M wb) (hy : ∀ s l H, Pr s l → I s H → CT Try.prog w0 N0 (.yield id sp) [vsI l] H (Left M I J H (step s l))) : Walk step M I J Pr w0 N0 K N id sp yb sy wb sw 0 := by
 intro vs first c X lb sl H s h1 h2 h3 hC hlb hlt hM n1 n2 hI hal
 have h1 : vs.length = K := h1
 have hb : beh vs (asc N 0 first) = [vs] := by unfold beh asc; simp
 rw [hb] at hal ⊢
 have pC := zo6 vs (by omega)
 unfold ic68
 repeat (first | refine za6 ?_ | refine za0 rfl ?_ | refine za3 ?_ | refine za4 ?_ | refine zbj ?_ | refine zai ?_ | refine zad ?_ | refine zc1 rfl ?_ | refine zbt rfl ?_ | refine zbc ?_ | refine zas ?_ | refine zbb ?_ | refine zaf ?_ | refine zb7 rfl ?_ | refine za8 ?_ | refine zab ?_ | refine zcp rfl ?_ | refine zh8 rfl rfl ?_ | refine zrp rfl ?_ | refine za1 rfl ?_ | refine zah rfl rfl ?_ | refine zb2 rfl rfl rfl rfl ?_ | refine zb9 rfl rfl rfl rfl rfl rfl rfl ?_ | refine zcu rfl ?_ | refine za9 rfl rfl rfl ?_ | refine zaw rfl rfl rfl ?_ | refine zc7 rfl rfl rfl rfl ?_ | refine zc2 ?_ | refine zan rfl rfl ?_ | refine zam rfl rfl ?_ | refine zqh rfl rfl ?_ | refine zbf rfl rfl ?_ | refine zdc rfl rfl ?_ | refine zbg rfl rfl ?_ | refine zd7 rfl rfl ?_ | refine zc8 rfl rfl rfl ?_ | refine zdo rfl rfl ?_ | refine zct rfl rfl rfl rfl ?_ | refine zc6 rfl rfl rfl rfl ?_ | refine zcw rfl rfl rfl rfl ?_ | refine zec rfl rfl ?_ | refine zdy rfl rfl ?_ | refine zb8 rfl rfl ?_ | refine zfa ?_ | refine zcm env0_ok rfl rfl rfl ?_ | refine zac (op := .add) rfl rfl rfl ?_ | refine zac (op := .sub) rfl rfl rfl ?_ | refine zf9 rfl rfl rfl ?_ | refine zf8 rfl rfl rfl ?_ | refine zbr rfl rfl rfl ?_ | refine zb5 rfl rfl rfl ?_ | refine zba rfl rfl (by omega) (by assumption) rfl ?_ | refine zaw rfl rfl (decide_eq_true ⟨by omega, by omega⟩) ?_ | refine zbv rfl rfl (by omega) (by omega) ?_ | refine zcv rfl rfl rfl ?_ | refine zfc rfl ?_ | refine zfb rfl ?_)
 refine zbr rfl rfl (by show some (AV.bool ((vs.length : Int) == (K : Int))) = _; rw [h1]; simp) ?_
 repeat (first | refine za6 ?_ | refine za0 rfl ?_ | refine za3 ?_ | refine za4 ?_ | refine zbj ?_ | refine zai ?_ | refine zad ?_ | refine zc1 rfl ?_ | refine zbt rfl ?_ | refine zbc ?_ | refine zas ?_ | refine zbb ?_ | refine zaf ?_ | refine zb7 rfl ?_ | refine za8 ?_ | refine zab ?_ | refine zcp rfl ?_ | refine zh8 rfl rfl ?_ | refine zrp rfl ?_ | refine za1 rfl ?_ | refine zah rfl rfl ?_ | refine zb2 rfl rfl rfl rfl ?_ | refine zb9 rfl rfl rfl rfl rfl rfl rfl ?_ | refine zcu rfl ?_ | refine za9 rfl rfl rfl ?_ | refine zaw rfl rfl rfl ?_ | refine zc7 rfl rfl rfl rfl ?_ | refine zc2 ?_ | refine zan rfl rfl ?_ | refine zam rfl rfl ?_ | refine zqh rfl rfl ?_ | refine zbf rfl rfl ?_ | refine zdc rfl rfl ?_ | refine zbg rfl rfl ?_ | refine zd7 rfl rfl ?_ | refine zc8 rfl rfl rfl ?_ | refine zdo rfl rfl ?_ | refine zct rfl rfl rfl rfl ?_ | refine zc6 rfl rfl rfl rfl ?_ | refine zcw rfl rfl rfl rfl ?_ | refine zec rfl rfl ?_ | refine zdy rfl rfl ?_ | refine zb8 rfl rfl ?_ | refine zfa ?_ | refine zac (op := .add) rfl rfl rfl ?_ | refine zac (op := .sub) rfl rfl rfl ?_ | refine zf9 rfl rfl rfl ?_ | refine zf8 rfl rfl rfl ?_ | refine zbr rfl rfl rfl ?_ | refine zb5 rfl rfl rfl ?_ | refine zba rfl rfl (by omega) (by assumption) rfl ?_ | refine zaw rfl rfl (decide_eq_true ⟨by omega, by omega⟩) ?_ | refine zbv rfl rfl (by omega) (by omega) ?_ | refine zcv rfl rfl rfl ?_ | refine zfc rfl ?_ | refine zfb rfl ?_)
 have hv : ∀ l : List (Nat × AV), [AV.ms lb sl 1 0 vs.length (some c)].map ((st 38 l H.heap H.next H.clk).view VD) = [vsI vs] := fun l => by
  rw [List.map_singleton, show VD = 3 + 1 from rfl, zgv (d := 3) vs rfl hlb]
 refine z_any env0_ok.mix fun rd => ?_
 repeat' first
  | exact trivial
  | refine AnyF.succ (by decide) ?_
  | refine AllL.cons' ?_ ?_
  | refine zi8 (i := 0) rfl rfl (zu1 rfl hC.hy hC.ly rfl) ?_
  | refine zi8 (i := 1) rfl rfl (g_mov rfl) ?_
  | refine af_pfn (i := 2) rfl rfl rfl (hv _) pC ?_
  | refine zml (i := 3) (fv := .yield id sp) (vs := [vsI vs]) (Left M I J H (step s vs)) rfl rfl rfl rfl (hy s vs H hal.1 hI) (fun _ _ _ _ h => absurd h List.not_mem_nil) fun v H1 hF => ?_
  | refine zi8 (i := 4) rfl rfl (g_mov rfl) ?_
  | refine AnyF.fin (by decide) (Um.ok ?_)
 all_goals
  obtain ⟨hk, hm⟩ := hF
  have hlk := (hk.look lb hM hlt).trans hlb
  repeat (first | refine za6 ?_ | refine za0 rfl ?_ | refine za3 ?_ | refine za4 ?_ | refine zbj ?_ | refine zai ?_ | refine zad ?_ | refine zc1 rfl ?_ | refine zbt rfl ?_ | refine zbc ?_ | refine zas ?_ | refine zbb ?_ | refine zaf ?_ | refine zb7 rfl ?_ | refine za8 ?_ | refine zab ?_ | refine zcp rfl ?_ | refine zh8 rfl rfl ?_ | refine zrp rfl ?_ | refine za1 rfl ?_ | refine zah rfl rfl ?_ | refine zb2 rfl rfl rfl rfl ?_ | refine zb9 rfl rfl rfl rfl rfl rfl rfl ?_ | refine zcu rfl ?_ | refine za9 rfl rfl rfl ?_ | refine zaw rfl rfl rfl ?_ | refine zc7 rfl rfl rfl rfl ?_ | refine zc2 ?_ | refine zan rfl rfl ?_ | refine zam rfl rfl ?_ | refine zqh rfl rfl ?_ | refine zbf rfl rfl ?_ | refine zdc rfl rfl ?_ | refine zbg rfl rfl ?_ | refine zd7 rfl rfl ?_ | refine zc8 rfl rfl rfl ?_ | refine zdo rfl rfl ?_ | refine zct rfl rfl rfl rfl ?_ | refine zc6 rfl rfl rfl rfl ?_ | refine zcw rfl rfl rfl rfl ?_ | refine zec rfl rfl ?_ | refine zdy rfl rfl ?_ | refine zb8 rfl rfl ?_ | refine zfa ?_ | refine zcm env0_ok rfl rfl rfl ?_ | refine zac (op := .add) rfl rfl rfl ?_ | refine zac (op := .sub) rfl rfl rfl ?_ | refine zf9 rfl rfl rfl ?_ | refine zf8 rfl rfl rfl ?_ | refine zbr rfl rfl rfl ?_ | refine zb5 rfl rfl rfl ?_ | refine zba rfl rfl (by omega) (by assumption) rfl ?_ | refine zaw rfl rfl (decide_eq_true ⟨by omega, by omega⟩) ?_ | refine zbv rfl rfl (by omega) (by omega) ?_ | refine zcv rfl rfl rfl ?_ | refine zfc rfl ?_ | refine zfb rfl ?_)
  refine zal ⟨.inr rfl, _, rfl, ⟨Keep.mono hk fun i hi => .inl hi, ?_⟩, X, rfl, hlk⟩
  rw [ze9]
  cases hst : step s vs with
  | inr t =>
   rw [hst] at hm
   exact hm
  | inl s' =>
   rw [hst] at hm
   exact hm
end
end Go.Proofs.Ytknomkcdpcnmaaa
