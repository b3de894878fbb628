/-
  LISTS OF NUMBERS AS THE MACHINE HOLDS THEM; LISTS THAT ARE GONE THROUGH.
-/
import Derived.Test.YtknomkcdpcnmaaaET1
namespace Go.Proofs.Ytknomkcdpcnmaaa
open Go Go.Am
def vsI (l : List Int) : AV := .vs (l.map fun z => [.int .i64 z])
theorem zev {D : List Int} {k : Nat} (hk : k < D.length) : (D.map fun z => ([.int .i64 z] : List AV))[((k : Nat) : Int).toNat]? = some [.int .i64 D[k]] := by
 rw [Int.toNat_natCast, List.getElem?_map, List.getElem?_eq_getElem hk]
 rfl
theorem zka : ∀ l : List Int, hasM.hasML (l.map (AV.int .i64)) = false
 | [] => rfl
 | b :: l => by
  have := zka l
  simpa [hasM.hasML, hasM] using this
theorem zio (l : List Int) : (l.map (AV.int .i64)) = (l.map fun z => ([.int .i64 z] : List AV)).flatten := by
 induction l with
 | nil => rfl
 | cons z l ih => simpa using ih
theorem zui : ∀ l : List Int, (l.map (AV.int .i64)).all AV.isCell = true
 | [] => rfl
 | z :: l => by
  simp [AV.isCell]
theorem zn7 {l : List Int} : ∀ x ∈ (l.map fun z => ([.int .i64 z] : List AV)), x.length = 1 := fun x hx => by
 obtain ⟨s, _, rfl⟩ := List.mem_map.1 hx
 rfl
theorem zgv {S : AS} {d id sp len : Nat} {cap : Option Nat} {J : List AV} (a : List Int) (hn : a.length = len) (hl : Am.look id S.heap = some (sp, .cells (a.map (AV.int .i64) ++ J))) : S.view (d + 1) (.ms id sp 1 0 len cap) = vsI a := by
 subst hn
 have e : S.elems 1 (.ms id sp 1 0 a.length cap) = some (a.map fun z => ([.int .i64 z] : List AV)) := by
  obtain ⟨n, t, hp, nx, ck, mk⟩ := S
  exact zdj (ys := J) (cap := cap) (n := n) (nx := nx) (ck := ck) (mk := mk) (l := []) (hp := hp) (by rw [← zio]; exact hl) (List.length_map ..) (fun x hx => by obtain ⟨s, _, rfl⟩ := List.mem_map.1 hx; rfl)
 simp only [AS.view, e]
 unfold vsI
 congr 1
 rw [List.map_map]
 apply List.map_congr_left
 intro s _
 cases d <;> rfl
theorem zw6 {S : AS} {d id sp len : Nat} {cap : Option Nat} (a : List Int) (hn : a.length = len) (hl : Am.look id S.heap = some (sp, .cells (a.map (AV.int .i64)))) : S.view (d + 1) (.ms id sp 1 0 len cap) = vsI a :=
 zgv (J := []) a hn (by rw [List.append_nil]; exact hl)
theorem zr1 {S : AS} {d : Nat} (l : List Int) : S.view d (vsI l) = vsI l := by cases d <;> rfl
def ze9 {α σ τ : Type} (step : σ → α → σ ⊕ τ) : List α → σ → σ ⊕ τ
 | [], s => .inl s
 | x :: xs, s => match step s x with
  | .inr t => .inr t
  | .inl s' => ze9 step xs s'
def zhl {α σ τ : Type} (step : σ → α → σ ⊕ τ) (Pr : σ → α → Prop) : List α → σ → Prop
 | [], _ => True
 | x :: xs, s => Pr s x ∧ ∀ s', step s x = .inl s' → zhl step Pr xs s'
theorem zn0 {α σ τ : Type} {step : σ → α → σ ⊕ τ} : ∀ (l m : List α) (s : σ), ze9 step (l ++ m) s = match ze9 step l s with
  | .inr t => .inr t
  | .inl s' => ze9 step m s'
 | [], _, _ => rfl
 | x :: l, m, s => by
  rw [List.cons_append, ze9, ze9]
  cases step s x with
  | inr t => rfl
  | inl s' => exact zn0 l m s'
theorem zi9 {α σ τ : Type} {step : σ → α → σ ⊕ τ} {Pr : σ → α → Prop} : ∀ (l m : List α) (s : σ), zhl step Pr (l ++ m) s → zhl step Pr l s ∧ ∀ s', ze9 step l s = .inl s' → zhl step Pr m s'
 | [], _, _, h => ⟨trivial, fun s' e => by injection e with e; subst e; exact h⟩
 | x :: l, m, s, ⟨h1, h2⟩ => by
  refine ⟨⟨h1, fun s' e => (zi9 l m s' (h2 s' e)).1⟩, fun s' e => ?_⟩
  rw [ze9] at e
  cases hs : step s x with
  | inr t => rw [hs] at e; cases e
  | inl s2 =>
   rw [hs] at e
   exact (zi9 l m s2 (h2 s2 hs)).2 s' e
section
variable {σ τ : Type} (M : Nat → Prop) (I : σ → HS → Prop) (J : τ → HS → Prop)
def Left (H : HS) (o : σ ⊕ τ) (v : AV) (H' : HS) : Prop :=
 Keep M H H' ∧ match o with
  | .inl s => v = .bool true ∧ I s H'
  | .inr t => v = .bool false ∧ J t H'
end
theorem Keep.mono {M M' : Nat → Prop} {H H' : HS} (h : Keep M H H') (hm : ∀ i, M i → M' i) : Keep M' H H' :=
 ⟨h.next, h.clk, fun i hi => h.look i fun h => hi (hm i h)⟩
theorem zva {a b c d : AV} (h1 : a = c) (h2 : b = d) : [a, b] = [c, d] := by rw [h1, h2]
end Go.Proofs.Ytknomkcdpcnmaaa
