/-
  ALL CHOICES: the walk.
-/
import Derived.Test.YtknomkcdpcnmaaaMV7
namespace Go.Proofs.Ytknomkcdpcnmaaa
open Go Go.Am
theorem zlf {lb ck : Nat} {H : HS} {o o2 : Nat × AObj} (hck : H.clk ≤ ck) : Keep (fun j => j = lb) H ⟨zb1 lb o ((H.next, o2) :: H.heap), H.next + 1, ck⟩ := ⟨Nat.le_succ _, hck, fun j hj hj2 => by
 show Am.look j (zb1 lb o ((H.next, o2) :: H.heap)) = _
 rw [za6, if_neg (fun e => hj e.symm), zav hj2]⟩
theorem zhz {M : Nat → Prop} {ck : Nat} {H : HS} {o o2 : Nat × AObj} (hck : H.clk ≤ ck) : Keep M H ⟨(H.next + 1, o) :: (H.next, o2) :: H.heap, H.next + 1 + 1, ck⟩ := ⟨by show H.next ≤ H.next + 1 + 1; omega, hck, fun j _ hj2 => by
 show Am.look j ((H.next + 1, o) :: (H.next, o2) :: H.heap) = _
 rw [zav (by omega), zav hj2]⟩
section
variable {σ τ : Type} {step : σ → List Int → σ ⊕ τ} {M : Nat → Prop} {I : σ → HS → Prop} {J : τ → HS → Prop}
set_option maxHeartbeats 4000000 in
theorem zvn {Pr : σ → List Int → Prop} {w0 : World} {N0 K N id sp yb sy wb sw : Nat} (hK : K ≤ 1000000) (hloc : Local M I) (ny : ¬ M yb) (nw : ¬ M wb) (hy : ∀ s l H, Pr s l → I s H → CT Try.prog w0 N0 (.yield id sp) [vsI l] H (Left M I J H (step s l))) : Walk step M I J Pr w0 N0 K N id sp yb sy wb sw 0 := by
 intro vs first c X lb sl H s h1 h2 h3 hC hlb hlt hM n1 n2 hI hal
 have h1 : vs.length = K := h1
 have hb : beh vs (asc N 0 first) = [vs] := by unfold beh asc; simp
 rw [hb] at hal ⊢
 have pC := znt vs (by omega)
 unfold ic68
 repeat (first | refine za5 ?_ | refine za0 rfl ?_ | refine za3 ?_ | refine za4 ?_ | refine zbg ?_ | refine zaf ?_ | refine zac ?_ | refine zbv rfl ?_ | refine zbk rfl ?_ | refine zbc ?_ | refine zao ?_ | refine zbb ?_ | refine zad ?_ | refine zb2 rfl ?_ | refine za8 ?_ | refine za9 ?_ | refine zcr rfl ?_ | refine zg5 rfl rfl ?_ | refine zoa rfl ?_ | refine za1 rfl ?_ | refine zah rfl rfl ?_ | refine zay rfl rfl rfl rfl ?_ | refine zbf rfl rfl rfl rfl rfl rfl rfl ?_ | refine zcf rfl ?_ | refine zab rfl rfl rfl ?_ | refine zar rfl rfl rfl ?_ | refine zbs rfl rfl rfl rfl ?_ | refine zbx ?_ | refine zam rfl rfl ?_ | refine zal rfl rfl ?_ | refine zlm rfl rfl ?_ | refine zb8 rfl rfl ?_ | refine zd1 rfl rfl ?_ | refine zbd rfl rfl ?_ | refine zcw rfl rfl ?_ | refine zbt rfl rfl rfl ?_ | refine zd2 rfl rfl ?_ | refine zce rfl rfl rfl rfl ?_ | refine zbr rfl rfl rfl rfl ?_ | refine zch rfl rfl rfl rfl ?_ | refine zdr rfl rfl ?_ | refine zde rfl rfl ?_ | refine zb4 rfl rfl ?_ | refine zed ?_ | refine zc1 env0_ok rfl rfl rfl ?_ | refine zae (op := .add) rfl rfl rfl ?_ | refine zae (op := .sub) rfl rfl rfl ?_ | refine zds rfl rfl rfl ?_ | refine zec rfl rfl rfl ?_ | refine zbw rfl rfl rfl ?_ | refine zb7 rfl rfl rfl ?_ | refine zbe rfl rfl (by omega) (by assumption) rfl ?_ | refine zar rfl rfl (decide_eq_true ⟨by omega, by omega⟩) ?_ | refine zbm rfl rfl (by omega) (by omega) ?_ | refine zcg rfl rfl rfl ?_ | refine zef rfl ?_ | refine zee rfl ?_)
 refine zbw rfl rfl (by show some (AV.bool ((vs.length : Int) == (K : Int))) = _; rw [h1]; simp) ?_
 repeat (first | refine za5 ?_ | refine za0 rfl ?_ | refine za3 ?_ | refine za4 ?_ | refine zbg ?_ | refine zaf ?_ | refine zac ?_ | refine zbv rfl ?_ | refine zbk rfl ?_ | refine zbc ?_ | refine zao ?_ | refine zbb ?_ | refine zad ?_ | refine zb2 rfl ?_ | refine za8 ?_ | refine za9 ?_ | refine zcr rfl ?_ | refine zg5 rfl rfl ?_ | refine zoa rfl ?_ | refine za1 rfl ?_ | refine zah rfl rfl ?_ | refine zay rfl rfl rfl rfl ?_ | refine zbf rfl rfl rfl rfl rfl rfl rfl ?_ | refine zcf rfl ?_ | refine zab rfl rfl rfl ?_ | refine zar rfl rfl rfl ?_ | refine zbs rfl rfl rfl rfl ?_ | refine zbx ?_ | refine zam rfl rfl ?_ | refine zal rfl rfl ?_ | refine zlm rfl rfl ?_ | refine zb8 rfl rfl ?_ | refine zd1 rfl rfl ?_ | refine zbd rfl rfl ?_ | refine zcw rfl rfl ?_ | refine zbt rfl rfl rfl ?_ | refine zd2 rfl rfl ?_ | refine zce rfl rfl rfl rfl ?_ | refine zbr rfl rfl rfl rfl ?_ | refine zch rfl rfl rfl rfl ?_ | refine zdr rfl rfl ?_ | refine zde rfl rfl ?_ | refine zb4 rfl rfl ?_ | refine zed ?_ | refine zae (op := .add) rfl rfl rfl ?_ | refine zae (op := .sub) rfl rfl rfl ?_ | refine zds rfl rfl rfl ?_ | refine zec rfl rfl rfl ?_ | refine zbw rfl rfl rfl ?_ | refine zb7 rfl rfl rfl ?_ | refine zbe rfl rfl (by omega) (by assumption) rfl ?_ | refine zar rfl rfl (decide_eq_true ⟨by omega, by omega⟩) ?_ | refine zbm rfl rfl (by omega) (by omega) ?_ | refine zcg rfl rfl rfl ?_ | refine zef rfl ?_ | refine zee rfl ?_)
 have hv : ∀ l : List (Nat × AV), [AV.ms lb sl 1 0 vs.length (some c)].map ((st 38 l H.heap H.next H.clk).view VD) = [vsI vs] := fun l => by
  rw [List.map_singleton, show VD = 3 + 1 from rfl, zgt (d := 3) vs rfl hlb]
 refine z_any env0_ok.mix fun rd => ?_
 repeat' first
  | exact trivial
  | refine AnyF.succ (by decide) ?_
  | refine AllL.cons' ?_ ?_
  | refine zi9 (i := 0) rfl rfl (zte rfl hC.hy hC.ly rfl) ?_
  | refine zi9 (i := 1) rfl rfl (g_mov rfl) ?_
  | refine af_pfn (i := 2) rfl rfl rfl (hv _) pC ?_
  | refine zkp (i := 3) (fv := .yield id sp) (vs := [vsI vs]) (Left M I J H (step s vs)) rfl rfl rfl rfl (hy s vs H hal.1 hI) (fun _ _ _ _ h => absurd h List.not_mem_nil) fun v H1 hF => ?_
  | refine zi9 (i := 4) rfl rfl (g_mov rfl) ?_
  | refine AnyF.fin (by decide) (Um.ok ?_)
 all_goals
  obtain ⟨hk, hm⟩ := hF
  have hlk := (hk.look lb hM hlt).trans hlb
  repeat (first | refine za5 ?_ | refine za0 rfl ?_ | refine za3 ?_ | refine za4 ?_ | refine zbg ?_ | refine zaf ?_ | refine zac ?_ | refine zbv rfl ?_ | refine zbk rfl ?_ | refine zbc ?_ | refine zao ?_ | refine zbb ?_ | refine zad ?_ | refine zb2 rfl ?_ | refine za8 ?_ | refine za9 ?_ | refine zcr rfl ?_ | refine zg5 rfl rfl ?_ | refine zoa rfl ?_ | refine za1 rfl ?_ | refine zah rfl rfl ?_ | refine zay rfl rfl rfl rfl ?_ | refine zbf rfl rfl rfl rfl rfl rfl rfl ?_ | refine zcf rfl ?_ | refine zab rfl rfl rfl ?_ | refine zar rfl rfl rfl ?_ | refine zbs rfl rfl rfl rfl ?_ | refine zbx ?_ | refine zam rfl rfl ?_ | refine zal rfl rfl ?_ | refine zlm rfl rfl ?_ | refine zb8 rfl rfl ?_ | refine zd1 rfl rfl ?_ | refine zbd rfl rfl ?_ | refine zcw rfl rfl ?_ | refine zbt rfl rfl rfl ?_ | refine zd2 rfl rfl ?_ | refine zce rfl rfl rfl rfl ?_ | refine zbr rfl rfl rfl rfl ?_ | refine zch rfl rfl rfl rfl ?_ | refine zdr rfl rfl ?_ | refine zde rfl rfl ?_ | refine zb4 rfl rfl ?_ | refine zed ?_ | refine zc1 env0_ok rfl rfl rfl ?_ | refine zae (op := .add) rfl rfl rfl ?_ | refine zae (op := .sub) rfl rfl rfl ?_ | refine zds rfl rfl rfl ?_ | refine zec rfl rfl rfl ?_ | refine zbw rfl rfl rfl ?_ | refine zb7 rfl rfl rfl ?_ | refine zbe rfl rfl (by omega) (by assumption) rfl ?_ | refine zar rfl rfl (decide_eq_true ⟨by omega, by omega⟩) ?_ | refine zbm rfl rfl (by omega) (by omega) ?_ | refine zcg rfl rfl rfl ?_ | refine zef rfl ?_ | refine zee rfl ?_)
  refine zaj ⟨.inr rfl, _, rfl, ⟨Keep.mono hk fun i hi => .inl hi, ?_⟩, X, rfl, hlk⟩
  rw [ze9]
  cases hst : step s vs with
  | inr t =>
   rw [hst] at hm
   exact hm
  | inl s' =>
   rw [hst] at hm
   exact hm
end
end Go.Proofs.Ytknomkcdpcnmaaa
