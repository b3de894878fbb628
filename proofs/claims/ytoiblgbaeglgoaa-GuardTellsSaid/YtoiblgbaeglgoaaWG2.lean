/-
  A REGION WHOSE ORDER IS OPEN, IN ALL ITS ORDERS: for operations that allocate in no order. A general base for proofs: no program is named here.
-/
import Derived.Test.YtoiblgbaeglgoaaWG1
namespace Go.Am
open Go Go.RowKit
def zfz (pres : List (List Nat)) (n : Nat) (done : List Nat) : List Nat := (List.range n).filter fun i => !done.contains i && (pres.getD i []).all fun p => done.contains p
def AllL (p : Nat → Prop) : List Nat → Prop
 | [] => True
 | i :: l => p i ∧ AllL p l
theorem AllL.mem {p : Nat → Prop} : ∀ {l : List Nat}, AllL p l → ∀ i ∈ l, p i
 | [], _, i, h => by cases h
 | j :: l, ⟨h1, h2⟩, i, h => by
  rcases List.mem_cons.1 h with rfl | h
  ·exact h1
  ·exact AllL.mem h2 i h
def AnyF (P : Program) (w0 : World) (N0 : Nat) (rd : Option (Nat × Nat)) (ios : List Opr) (pres : List (List Nat)) : Nat → List Nat → AS → (AS → Prop) → Prop
 | 0, done, S, K => zfz pres ios.length done = [] ∧ K S
 | n + 1, done, S, K => zfz pres ios.length done ≠ [] ∧ AllL (fun i => ∀ io, ios[i]? = some io → zc9 S.size io.dst = true ∧
   (
    (zal S io = some false ∧ AnyF P w0 N0 rd ios pres n (i :: done) (S.put io.dst (.tup [])) K) ∨
    (zal S io = some true ∧ ∃ Fk : AS → AV → Prop, Stp P w0 N0 rd io S Fk ∧ ∀ S1 v, Fk S1 v → zc9 S1.size io.dst = true ∧ AnyF P w0 N0 rd ios pres n (i :: done) (S1.put io.dst v) K))) (zfz pres ios.length done)
section
variable {P : Program} {w0 w : World} {N0 : Nat} {I : LI} {S S' S1 : AS} {a : Act} {rd : Option (Nat × Nat)} {Q : Exit → AS → Prop}
theorem zhn {ios : List Opr} {pres : List (List Nat)} {ops : Array Oper} {listed : Array Bool} {done : List Nat} (hpr : pres = zgx ops) (hsz : ios.length = ops.size) (hlz : listed.size = ops.size) (hl : ∀ i, listed.getD i false = done.contains i) (i : Nat) :
  i ∈ Region.ready .any ops listed ↔ i ∈ zfz pres ios.length done := by
 unfold zfz
 rw [mem_ready, List.mem_filter, List.mem_range]
 constructor
 ·rintro ⟨hu, o, hoi, hpre⟩
  have hlt : i < ops.size := (Array.getElem?_eq_some_iff.1 hoi).1
  have hil : i < listed.size := by omega
  have hu' : listed.getD i false = false := by
   simp only [Array.getD_eq_getD_getElem?, Array.getElem?_eq_getElem hil, Option.getD_some] at hu ⊢
   exact hu
  refine ⟨by omega, ?_⟩
  rw [Bool.and_eq_true, ← hl, hu', List.all_eq_true]
  refine ⟨rfl, fun p hp => ?_⟩
  have hp' : pres[i]? = some ((o.after.toList.filter (Region.binds .any ·)).map (·.on)) := by rw [hpr]; simp [zgx, hoi]
  rw [List.getD_eq_getElem?_getD, hp', Option.getD_some] at hp
  obtain ⟨e, he, rfl⟩ := List.mem_map.1 hp
  obtain ⟨he1, he2⟩ := List.mem_filter.1 he
  rw [← hl]
  exact hpre e (by simpa using he1) he2
 ·rintro ⟨hi, h⟩
  rw [Bool.and_eq_true, ← hl, List.all_eq_true] at h
  obtain ⟨h1, h2⟩ := h
  have hio' : i < ops.size := by omega
  have hil : i < listed.size := by omega
  refine ⟨?_, ops[i], by simp [hio'], fun e he hb => ?_⟩
  ·have h1 : listed.getD i false = false := by simpa using h1
   simp only [Array.getD_eq_getD_getElem?, Array.getElem?_eq_getElem hil, Option.getD_some] at h1 ⊢
   exact h1
  ·have hp : pres[i]? = some ((ops[i].after.toList.filter (Region.binds .any ·)).map (·.on)) := by
    rw [hpr]; simp [zgx, hio']
   have := h2 e.on (by rw [List.getD_eq_getElem?_getD, hp, Option.getD_some]; exact List.mem_map.2 ⟨e, List.mem_filter.2 ⟨by simpa using he, hb⟩, rfl⟩)
   rw [← hl] at this
   exact this
theorem any_all {ios : List Opr} {pres : List (List Nat)} {ops : Array Oper} (hio : ops.toList.mapM (zgg P ops) = some ios) (hpr : pres = zgx ops)
  {r : Option Nat} {n : Nat} {Qc : Exit → Act → World → Prop} {K : AS → Prop} : ∀ (m : Nat) (done : List Nat) (listed : Array Bool) (S : AS) (I : LI) (a : Act) (w : World) (fuel : Nat), m ≤ fuel → listed.size = ops.size → (∀ i, listed.getD i false = done.contains i) →
   Rel w0 N0 I S a w → RdOk I rd r → AnyF P w0 N0 rd ios pres m done S K → (∀ I' S' a' w', K S' → Rel w0 N0 I' S' a' w' → Evo I w I' w' → Qc .normal a' w') → wpAnyIn (Wd r) n P .any ops Qc fuel listed a w := by
 obtain ⟨hlen, hget⟩ := zgp hio
 have hsz : ios.length = ops.size := by simpa using hlen
 intro m
 induction m with
 | zero =>
  intro done listed S I a w fuel _ hlz hl hR ho ⟨h1, hK⟩ hQ
  have hr : Region.ready .any ops listed = [] := by
   cases hr : Region.ready .any ops listed with
   | nil => rfl
   | cons i l =>
    have hi : i ∈ Region.ready .any ops listed := by rw [hr]; exact List.mem_cons_self ..
    rw [zhn hpr hsz hlz hl, h1] at hi
    cases hi
  cases fuel with
  | zero => exact ⟨hr, hQ I S a w hK hR (Evo.refl I w)⟩
  | succ fuel => exact ⟨fun _ => hQ I S a w hK hR (Evo.refl I w), fun i hi => by rw [hr] at hi; cases hi⟩
 | succ m ih =>
  intro done listed S I a w fuel hf hlz hl hR ho ⟨hne, hall⟩ hQ
  cases fuel with
  | zero => omega
  | succ fuel =>
   refine ⟨fun hr => ?_, fun i hi => ?_⟩
   ·exfalso
    cases hrl : zfz pres ios.length done with
    | nil => exact hne hrl
    | cons i l =>
     have hi : i ∈ zfz pres ios.length done := by rw [hrl]; exact List.mem_cons_self ..
     rw [← zhn hpr hsz hlz hl, hr] at hi
     cases hi
   ·have hi2 := (zhn hpr hsz hlz hl i).1 hi
    have hstep := hall.mem i hi2
    rw [mem_ready] at hi
    obtain ⟨hu, o, hoi, hpre⟩ := hi
    have hlt : i < ops.size := (Array.getElem?_eq_some_iff.1 hoi).1
    obtain ⟨io, hio1, hcom⟩ := hget i o (by rw [Array.getElem?_toList]; exact hoi)
    obtain ⟨hok, hor⟩ := hstep io hio1
    have hdo : o.dst = io.dst := (zix hcom).1
    have hl' : ∀ k, (listed.setIfInBounds i true).getD k false = (i :: done).contains k := fun k => by
     rw [ze1 (by omega), hl, List.contains_cons]
     by_cases e : k = i
     ·subst e; simp
     ·simp [e]
    have hnext : ∀ (I' : LI) (S1 : AS) (v : AV) (u : Value) (w' : World), zc9 S1.size io.dst = true → AnyF P w0 N0 rd ios pres m (i :: done) (S1.put io.dst v) K → Rel w0 N0 I' S1 a w' → VRel w' I'.ro (some I') v u → Evo I w I' w' →
      wpAnyIn (Wd r) n P .any ops Qc fuel (listed.setIfInBounds i true) (a.put o.dst u) w' := fun I' S1 v u w' hok hA hR' hV hE => by
     rw [hdo]
     exact ih (i :: done) _ (S1.put io.dst v) I' _ w' fuel (by omega) (by simp [hlz]) hl' (hR'.put hok hV) (ho.evo hE) hA fun I'' S'' a'' w'' k x y => hQ I'' S'' a'' w'' k x (hE.trans y)
    unfold wpOpIn
    simp only [hoi]
    rcases hor with ⟨hw, hA⟩ | ⟨hw, Fk, hst, hk⟩
    ·rw [if_neg (by rw [zer hR hcom hw]; simp)]
     exact ⟨fun _ _ => trivial, hnext I S (.tup []) undef w hok hA hR (.tup rfl (by simp)) (Evo.refl I w)⟩
    ·rw [if_pos (zer hR hcom hw)]
     exact hst ops o hcom n I a w r _ Qc hR ho fun I' S1 v u w' hF hR' hV hE => hnext I' S1 v u w' (hk S1 v hF).1 (hk S1 v hF).2 hR' hV hE
theorem T_any (hm : P.follows .mixedOrders = true) {ios : List Opr} {pres : List (List Nat)} (h : AnyF P w0 N0 rd ios pres ios.length [] S fun S' => Q .normal S') : T P w0 N0 rd (.region ios (some pres)) S Q := fun code hcom n I a w r hr ho => by
 cases hcom with
 | @region id ops draw _ _ h1 hp =>
  cases draw with
  | false => simp at hp
  | true =>
   refine wpIn_region_any hm ?_
   obtain ⟨hlen, _⟩ := zgp h1
   simp at hlen
   obtain ⟨k1, k2⟩ := hr.hrel.drew
   refine any_all h1 (by simpa using hp) ios.length [] _ S I a _ ops.size (by omega) (by simp) (fun i => by rw [zgy]; rfl) ⟨hr.clk, ⟨hr.tmps.1, fun d v hv => (hr.tmps.2 d v hv).evo k2⟩, k1, hr.marks⟩ ho h fun I' S' a' w' hK hR hE => ⟨I', S', hK, hR, k2.trans hE⟩
end
end Go.Am
