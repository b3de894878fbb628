/-
  WHAT GROWS COMPARES: the plain law.
-/
import Derived.Test.YtknomkcdpcnmaaaMP10
import Derived.Test.YtknomkcdpcnmaaaMP5
namespace Go.Proofs.Ytknomkcdpcnmaaa
open Go Go.Am
theorem zp4 {N : Nat} : ∀ {k f : Nat}, f ≤ N → asc N k f = (asc (N + 1) k f).filter fun c => !c.contains (N : Int)
 | 0, f, _ => rfl
 | k + 1, f, hf => by
  rw [asc, asc, show N + 1 - f = (N - f) + 1 by omega, List.range'_1_concat, List.flatMap_append, List.filter_append, List.flatMap_singleton, show f + (N - f) = N by omega]
  have h2 : ((asc (N + 1) k (N + 1)).map fun c => ((N : Nat) : Int) :: c).filter (fun c => !c.contains (N : Int)) = [] := by
   rw [List.filter_eq_nil_iff]
   intro c hc
   obtain ⟨d, _, rfl⟩ := List.mem_map.1 hc
   simp
  rw [h2, List.append_nil, List.filter_flatMap]
  refine congrArg List.flatten (List.map_congr_left fun i hi => ?_)
  rw [List.mem_range'_1] at hi
  rw [List.filter_map, zp4 (k := k) (f := i + 1) (by omega)]
  congr 1
  refine List.filter_congr fun c _ => ?_
  have : ¬ ((N : Nat) : Int) = (i : Int) := by omega
  simp [this]
theorem zpl {α : Type} {p q : α → Bool} {d : α} (hp : p d = true) : ∀ {l : List α}, l.find? q = some d → l.find? (fun a => p a && q a) = some d
 | [], h => by cases h
 | a :: l, h => by
  rw [List.find?_cons] at h ⊢
  cases hq : q a with
  | true =>
   rw [hq] at h
   obtain rfl := Option.some.inj h
   rw [hp]
   rfl
  | false =>
   rw [hq] at h
   rw [Bool.and_false]
   exact zpl hp h
theorem zim {α : Type} {p q : α → Bool} : ∀ l : List α, (l.filter p).find? q = l.find? fun a => p a && q a
 | [] => rfl
 | a :: l => by
  rw [List.filter_cons, List.find?_cons]
  cases hp : p a with
  | true => rw [if_pos rfl, List.find?_cons, Bool.true_and, zim l]
  | false => rw [if_neg Bool.false_ne_true, Bool.false_and, zim l]
theorem few_at {n : Int} {s : List (BitVec 64)} {c : List Int} (h : zjp n s = some c) : (asc s.length c.length 0).find? (zhs n s) = some c := by
 have hcl := (zfw h).1
 unfold zjp at h
 obtain ⟨e, he⟩ : ∃ e, s.length + 1 = c.length + (e + 1) := ⟨s.length - c.length, by omega⟩
 rw [he, zp3, zmb, Nat.zero_add, List.find?_append, List.find?_append] at h
 have lenOf : ∀ {k m : Nat} {x : List Int}, x ∈ zkq s.length k m → k ≤ x.length ∧ x.length < k + m := fun hx => by
  unfold zkq at hx
  obtain ⟨j, hj, hm⟩ := List.mem_flatMap.1 hx
  rw [List.mem_range'_1] at hj
  have := (zfq hm).1
  omega
 cases h1 : (zkq s.length 0 c.length).find? (zhs n s) with
 | some x =>
  rw [h1] at h
  obtain rfl := Option.some.inj h
  have := lenOf (List.mem_of_find?_eq_some h1)
  omega
 | none =>
  rw [h1, Option.none_or] at h
  cases h2 : (asc s.length c.length 0).find? (zhs n s) with
  | some x =>
   rw [h2] at h
   exact h
  | none =>
   rw [h2, Option.none_or] at h
   have := lenOf (List.mem_of_find?_eq_some h)
   omega
theorem zi6 {s : List (BitVec 64)} {x : BitVec 64} {c : List Int} (hm : ∀ z ∈ c, 0 ≤ z ∧ z < s.length) : uni (s ++ [x]) c = uni s c := by
 refine bits_eq fun b => ?_
 rw [zvf, zvf, List.any_eq_true, List.any_eq_true]
 have e : ∀ z ∈ c, (s ++ [x]).getD z.toNat 0 = s.getD z.toNat 0 := fun z hz => by
  have := hm z hz
  rw [List.getD_eq_getElem?_getD, List.getD_eq_getElem?_getD, List.getElem?_append_left (by omega)]
 exact ⟨fun ⟨z, hz, hb⟩ => ⟨z, hz, by rw [← e z hz]; exact hb⟩, fun ⟨z, hz, hb⟩ => ⟨z, hz, by rw [e z hz]; exact hb⟩⟩
theorem zpj {n : Int} {s : List (BitVec 64)} {c : List Int} (hp : c.Pairwise (· < ·)) (hm : ∀ z ∈ c, 0 ≤ z ∧ z < s.length) (hu : uni s c = zcq n) (hl : c.length ≤ s.length) : (zjp n s).isSome = true := by
 unfold zjp zkq
 rw [List.find?_isSome]
 refine ⟨c, List.mem_flatMap.2 ⟨c.length, by rw [List.mem_range'_1]; omega, zp5 hp fun z hz => by have := hm z hz; omega⟩, ?_⟩
 unfold zhs
 rw [hu]
 exact beq_self_eq_true _
theorem ztk {n : Int} {s : List (BitVec 64)} {x : BitVec 64} (hs : s.length ≤ 64) (h : zjp n (s ++ [x]) = none) : zjp n s = none := by
 cases hF : zjp n s with
 | none => rfl
 | some c =>
  obtain ⟨h1, h2, h3⟩ := zfw hF
  have hu : uni s c = zcq n := by unfold zhs at h2; exact eq_of_beq h2
  have := zpj (n := n) (s := s ++ [x]) (zvg (zpk hs hF)) (fun z hz => by have := h3 z hz; rw [List.length_append]; omega) (by rw [zi6 h3]; exact hu) (by rw [List.length_append]; omega)
  rw [h] at this
  cases this
theorem ztj {n : Int} {s : List (BitVec 64)} {x : BitVec 64} (hs : s.length ≤ 64) {c d : List Int} (hF : zjp n s = some c) (h : zjp n (s ++ [x]) = some d) : d.length ≤ c.length := by
 obtain ⟨h1, h2, h3⟩ := zfw hF
 have hu : uni s c = zcq n := by unfold zhs at h2; exact eq_of_beq h2
 exact zt1 h (zvg (zpk hs hF)) (fun z hz => by have := h3 z hz; rw [List.length_append]; omega) (by rw [zi6 h3]; exact hu)
theorem grow_old {n : Int} {s : List (BitVec 64)} {x : BitVec 64} (hs : s.length ≤ 63) {d : List Int} (h : zjp n (s ++ [x]) = some d) (hd : d.contains (s.length : Int) = false) : zjp n s = some d := by
 obtain ⟨h1, h2, h3⟩ := zfw h
 have hlen : (s ++ [x]).length = s.length + 1 := by rw [List.length_append]; rfl
 rw [hlen] at h1 h3
 have hni : (s.length : Int) ∉ d := fun hx => by rw [List.contains_iff_mem.2 hx] at hd; cases hd
 have hr : ∀ z ∈ d, 0 ≤ z ∧ z < s.length := fun z hz => by
  have h4 := h3 z hz
  have h5 : z ≠ (s.length : Int) := fun e => hni (e ▸ hz)
  omega
 have hpw := zvg (zpk (by rw [hlen]; omega) h)
 have hu : uni s d = zcq n := by
  unfold zhs at h2
  rw [← zi6 (x := x) hr]
  exact eq_of_beq h2
 have hdl : d.length ≤ s.length := by
  refine Nat.le_of_not_lt fun hx => ?_
  have := zp5 (N := s.length) (f := 0) hpw fun z hz => by have := hr z hz; omega
  rw [znm (by omega) (by omega)] at this
  cases this
 obtain ⟨c, hF⟩ := Option.isSome_iff_exists.1 (zpj hpw hr hu hdl)
 have l1 := zt1 hF hpw hr hu
 have l2 := ztj (by omega) hF h
 have a1 := few_at hF
 have a2 := few_at h
 rw [hlen] at a2
 have a3 := zpl (p := fun c => !c.contains (s.length : Int)) (by rw [hd]; rfl) a2
 rw [← zim, ← zp4 (by omega)] at a3
 have a4 : ∀ L : List (List Int), (∀ e ∈ L, ∀ z ∈ e, 0 ≤ z ∧ z < s.length) → L.find? (zhs n (s ++ [x])) = L.find? (zhs n s) := by
  intro L
  induction L with
  | nil => intro _; rfl
  | cons e L ih =>
   intro hL
   have e1 : zhs n (s ++ [x]) e = zhs n s e := by
    unfold zhs
    rw [zi6 (hL e (List.mem_cons_self ..))]
   rw [List.find?_cons, List.find?_cons, e1, ih fun y hy => hL y (List.mem_cons_of_mem _ hy)]
 rw [a4 _ fun e he z hz => by have := (zfq he).2 z hz; omega] at a3
 rw [show c.length = d.length by omega, a3] at a1
 rw [hF, Option.some.inj a1]
end Go.Proofs.Ytknomkcdpcnmaaa
