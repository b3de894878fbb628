/-
  DANGERS: the round over the positions of a step, in guard.Danger.
-/
import Derived.Test.YtoiblgbaeglgoaaXS14
namespace Go.Proofs.Ytoiblgbaeglgoaa
open Go Go.Am
def zwo (f : List Ex) (_ : Unit) (p : List Int) : Unit ⊕ List Int := if (zgi f p).isEmpty = true then .inl () else .inr p
theorem zlh (f : List Ex) : ∀ C : List (List Int), zl2 (zwo f) C () = match badP f C with | some p => .inr p | none => .inl ()
 | [] => rfl
 | p :: C => by
  rw [zl2]
  unfold badP
  rw [List.find?_cons]
  unfold zwo
  cases h : (zgi f p).isEmpty with
  | true => exact zlh f C
  | false => rfl
theorem zjo {f : List Ex} {m : Nat} : ∀ (C : List (List Int)) (s : Unit), (∀ p ∈ C, p.length = m) → Along (zwo f) (fun _ p => p.length = m) C s
 | [], _, _ => trivial
 | p :: C, _, h => ⟨h p (List.mem_cons_self ..), fun s' _ => zjo C s' fun q hq => h q (List.mem_cons_of_mem _ hq)⟩
structure I18 (D : Nat) (es : List Int) (ltm : List (Nat × AV)) (_ : Unit) (H : HS) : Prop where
 nx : D + 2 ≤ H.next
 h4 : Am.look (D + 1) H.heap = some (2, .loop .ready none 97 (ze0 ltm) [87] zl8 zl9 (D, 1))
 h3 : Am.look D H.heap = some (1, .deferred)
 r0 : Am.look 0 H.heap = some (0, .cells [.int .i64 0])
 r1 : Am.look 1 H.heap = some (0, .cells [.nils])
 r2 : Am.look 2 H.heap = some (0, .cells [.bool false])
 r3 : Am.look 3 H.heap = some (0, .cells [.int .i64 0])
 he : Am.look 4 H.heap = some (0, .cells (es.map (AV.int .i64)))
structure J18 (D i : Nat) (p : List Int) (H : HS) : Prop where
 nx : D + 2 ≤ H.next
 h4 : ∃ tm, Am.look (D + 1) H.heap = some (2, .loop .done (some .ret) 97 tm [87] zl8 zl9 (D, 1))
 h3 : Am.look D H.heap = some (1, .deferred)
 r0 : Am.look 0 H.heap = some (0, .cells [.int .i64 (i : Nat)])
 r1 : Am.look 1 H.heap = some (0, .cells [vsI p])
 r2 : Am.look 2 H.heap = some (0, .cells [.bool true])
 r3 : Am.look 3 H.heap = some (0, .cells [.int .i64 0])
def M18 (D i : Nat) : Prop := i < 5 ∨ i = D ∨ i = D + 1
theorem local18 {D : Nat} (hD : 5 ≤ D) (es : List Int) (ltm : List (Nat × AV)) : Local (M18 D) (I18 D es ltm) :=
 ⟨fun s H h i hi => by have := h.nx; rcases hi with hi | hi | hi <;> omega, fun s H H' h hn hl =>
  ⟨Nat.le_trans h.nx hn, (hl (D + 1) (.inr (.inr rfl))).trans h.h4, (hl D (.inr (.inl rfl))).trans h.h3, (hl 0 (.inl (by decide))).trans h.r0, (hl 1 (.inl (by decide))).trans h.r1, (hl 2 (.inl (by decide))).trans h.r2, (hl 3 (.inl (by decide))).trans h.r3, (hl 4 (.inl (by decide))).trans h.he⟩⟩
def l18 (f : List Ex) (n : Int) (l : List Sp) (m i : Nat) (C : AV) : List (Nat × AV) := [(86, C), (2, .vptr [.vs (cXs f)]), (3, .vptr [.int .i64 n, .vs (cPs l)]), (4, .mptr 0 0 0), (5, .mptr 1 0 0), (6, .mptr 2 0 0), (7, .mptr 3 0 0), (10, .ms 4 0 1 0 m (some m)), (38, .vs (cPs l)), (39, .int .i64 (cPs l).length), (40, .int .i64 (i : Nat)), (11, .vptr [.int .i64 (i : Nat)])]
set_option maxHeartbeats 2000000 in
theorem yield18 {w0 : World} {N0 D : Nat} (hD : 5 ≤ D) {f : List Ex} {m : Nat} (hsl : ∀ y ∈ f, Slim y) (hg : zdd f m = 0) (n : Int) (l : List Sp) (i : Nat) (C : AV) (es : List Int) (ha : Com Try.prog zl8 zp7) (hb : Com Try.prog zl9 zw3) (s : Unit) (p : List Int) (H : HS) (hp : p.length = m) (h : I18 D es (l18 f n l m i C) s H) :
  CT Try.prog w0 N0 (.yield (D + 1) 2) [vsI p] H (zt6 (M18 D) (I18 D es (l18 f n l m i C)) (J18 D i) H (zwo f s p)) := by
 obtain ⟨nx, h4, h3, r0, r1, r2, r3, he⟩ := h
 have h53 := whichG hsl hg hp
 refine zml (l0 := (87, vsI p) :: l18 f n l m i C) h4 ha hb rfl (by decide) rfl ?_
 unfold zp7
 repeat (first | refine za0 rfl ?_ | refine za3 ?_ | refine za4 rfl ?_)
 refine zak ⟨rfl, _, rfl, ?_⟩
 unfold zw3 l18 zwo
 repeat (first | refine za6 ?_ | refine za0 rfl ?_ | refine zad ?_ | refine za4 rfl ?_ | refine za8 rfl rfl ?_ | refine zah rfl rfl rfl ?_)
 refine zau rfl rfl h53 (fun h => Bool.noConfusion (show false = true from h)) ?_
 repeat (first | refine zb9 rfl rfl ?_)
 refine zar rfl rfl rfl (fun h6 => ?_) fun h6 => ?_
 ·have h6 : (zgi f p).isEmpty = false := by
   cases ht : zgi f p with
   | nil => rw [ht] at h6; exact absurd h6 (by decide)
   | cons _ _ => rfl
  rw [h6, if_neg (fun h => Bool.noConfusion h)]
  repeat (first | refine za6 ?_ | refine za0 rfl ?_ | refine za3 ?_ | refine za2 ?_ | refine zb0 rfl ?_ | refine za4 rfl ?_ | refine za8 rfl rfl ?_)
  refine zal (sp := 0) rfl rfl rfl rfl (by (repeat (first | rw [za1, if_pos rfl] | rw [za1, if_neg (by omega)] | rw [zae, if_neg (by omega)])); all_goals (first | rfl | assumption)) rfl rfl ?_
  refine zal (sp := 0) rfl rfl rfl rfl (by (repeat (first | rw [za1, if_pos rfl] | rw [za1, if_neg (by omega)] | rw [zae, if_neg (by omega)])); all_goals (first | rfl | assumption)) rfl rfl ?_
  refine zal (sp := 0) rfl rfl rfl rfl (by (repeat (first | rw [za1, if_pos rfl] | rw [za1, if_neg (by omega)] | rw [zae, if_neg (by omega)])); all_goals (first | rfl | assumption)) rfl rfl ?_
  refine zal (sp := 0) rfl rfl rfl rfl (by (repeat (first | rw [za1, if_pos rfl] | rw [za1, if_neg (by omega)] | rw [zae, if_neg (by omega)])); all_goals (first | rfl | assumption)) rfl rfl ?_
  repeat (first | refine za3 ?_ | refine za2 ?_ | refine zam ?_ | refine zaa ?_)
  refine zak ⟨97, ze0 (l18 f n l m i C), [87], zl8, zl9, (D, 1), ?_, some .ret, rfl, ⟨Nat.le_refl _, Nat.le_refl _, fun j hj _ => ?_⟩, rfl, ⟨nx, ⟨ze0 (l18 f n l m i C), ?_⟩, ?_, ?_, ?_, ?_, ?_⟩⟩
  ·show Am.look (D + 1) (zbd 3 _ (zbd 2 _ (zbd 1 _ (zbd 0 _ (zbd (D + 1) _ H.heap))))) = _
   exact (by (repeat (first | rw [za1, if_pos rfl] | rw [za1, if_neg (by omega)] | rw [zae, if_neg (by omega)])); all_goals (first | rfl | assumption))
  ·show Am.look j (zbd (D + 1) _ (zbd 3 _ (zbd 2 _ (zbd 1 _ (zbd 0 _ (zbd (D + 1) _ H.heap)))))) = _
   have h1 : D + 1 ≠ j := fun e => hj (.inr (.inr e.symm))
   have h2 : 5 ≤ j := Nat.le_of_not_lt fun e => hj (.inl e)
   rw [za1, if_neg h1, za1, if_neg (by omega), za1, if_neg (by omega), za1, if_neg (by omega), za1, if_neg (by omega), za1, if_neg h1]
  ·show Am.look (D + 1) (zbd (D + 1) _ _) = _
   rw [za1, if_pos rfl]; rfl
  ·show Am.look D (zbd (D + 1) _ (zbd 3 _ (zbd 2 _ (zbd 1 _ (zbd 0 _ (zbd (D + 1) _ H.heap)))))) = _
   exact (by (repeat (first | rw [za1, if_pos rfl] | rw [za1, if_neg (by omega)] | rw [zae, if_neg (by omega)])); all_goals (first | rfl | assumption))
  ·show Am.look 0 (zbd (D + 1) _ (zbd 3 _ (zbd 2 _ (zbd 1 _ (zbd 0 _ (zbd (D + 1) _ H.heap)))))) = _
   exact (by (repeat (first | rw [za1, if_pos rfl] | rw [za1, if_neg (by omega)] | rw [zae, if_neg (by omega)])); all_goals (first | rfl | assumption))
  ·show Am.look 1 (zbd (D + 1) _ (zbd 3 _ (zbd 2 _ (zbd 1 _ (zbd 0 _ (zbd (D + 1) _ H.heap)))))) = _
   exact (by (repeat (first | rw [za1, if_pos rfl] | rw [za1, if_neg (by omega)] | rw [zae, if_neg (by omega)])); all_goals (first | rfl | assumption))
  ·show Am.look 2 (zbd (D + 1) _ (zbd 3 _ (zbd 2 _ (zbd 1 _ (zbd 0 _ (zbd (D + 1) _ H.heap)))))) = _
   exact (by (repeat (first | rw [za1, if_pos rfl] | rw [za1, if_neg (by omega)] | rw [zae, if_neg (by omega)])); all_goals (first | rfl | assumption))
  ·show Am.look 3 (zbd (D + 1) _ (zbd 3 _ (zbd 2 _ (zbd 1 _ (zbd 0 _ (zbd (D + 1) _ H.heap)))))) = _
   exact (by (repeat (first | rw [za1, if_pos rfl] | rw [za1, if_neg (by omega)] | rw [zae, if_neg (by omega)])); all_goals (first | rfl | assumption))
 ·have h6 : (zgi f p).isEmpty = true := by
   cases ht : zgi f p with
   | nil => rfl
   | cons _ t => rw [ht] at h6; exact absurd (show (_ : Int) > 0 from by show ((t.map _).length + 1 : Nat) > (0 : Int); omega) (of_decide_eq_false h6)
  rw [h6, if_pos rfl]
  repeat (first | refine za3 ?_ | refine za2 ?_ | refine zb6 ?_ | refine zab ?_ | refine zb8 rfl ?_)
  refine zak ⟨97, ze0 (l18 f n l m i C), [87], zl8, zl9, (D, 1), ?_, none, rfl, ⟨Nat.le_refl _, Nat.le_refl _, fun j hj _ => ?_⟩, rfl, ⟨nx, ?_, ?_, ?_, ?_, ?_, ?_, ?_⟩⟩
  ·show Am.look (D + 1) (zbd (D + 1) _ H.heap) = _
   exact (by (repeat (first | rw [za1, if_pos rfl] | rw [za1, if_neg (by omega)] | rw [zae, if_neg (by omega)])); all_goals (first | rfl | assumption))
  ·show Am.look j (zbd (D + 1) _ (zbd (D + 1) _ H.heap)) = _
   rw [za1, if_neg (fun e => hj (.inr (.inr e.symm))), za1, if_neg (fun e => hj (.inr (.inr e.symm)))]
  ·show Am.look (D + 1) (zbd (D + 1) _ _) = _
   rw [za1, if_pos rfl]; rfl
  ·show Am.look D (zbd (D + 1) _ (zbd (D + 1) _ H.heap)) = _
   exact (by (repeat (first | rw [za1, if_pos rfl] | rw [za1, if_neg (by omega)] | rw [zae, if_neg (by omega)])); all_goals (first | rfl | assumption))
  ·show Am.look 0 (zbd (D + 1) _ (zbd (D + 1) _ H.heap)) = _
   exact (by (repeat (first | rw [za1, if_pos rfl] | rw [za1, if_neg (by omega)] | rw [zae, if_neg (by omega)])); all_goals (first | rfl | assumption))
  ·show Am.look 1 (zbd (D + 1) _ (zbd (D + 1) _ H.heap)) = _
   exact (by (repeat (first | rw [za1, if_pos rfl] | rw [za1, if_neg (by omega)] | rw [zae, if_neg (by omega)])); all_goals (first | rfl | assumption))
  ·show Am.look 2 (zbd (D + 1) _ (zbd (D + 1) _ H.heap)) = _
   exact (by (repeat (first | rw [za1, if_pos rfl] | rw [za1, if_neg (by omega)] | rw [zae, if_neg (by omega)])); all_goals (first | rfl | assumption))
  ·show Am.look 3 (zbd (D + 1) _ (zbd (D + 1) _ H.heap)) = _
   exact (by (repeat (first | rw [za1, if_pos rfl] | rw [za1, if_neg (by omega)] | rw [zae, if_neg (by omega)])); all_goals (first | rfl | assumption))
  ·show Am.look 4 (zbd (D + 1) _ (zbd (D + 1) _ H.heap)) = _
   exact (by (repeat (first | rw [za1, if_pos rfl] | rw [za1, if_neg (by omega)] | rw [zae, if_neg (by omega)])); all_goals (first | rfl | assumption))
end Go.Proofs.Ytoiblgbaeglgoaa
