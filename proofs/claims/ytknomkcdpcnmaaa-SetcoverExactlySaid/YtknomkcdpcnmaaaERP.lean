/-
  REGIONS IN ALL THEIR ORDERS BY AN INVARIANT.
-/
import Derived.Test.YtknomkcdpcnmaaaERL
import Derived.Test.YtknomkcdpcnmaaaES0
namespace Go.Proofs.Ytknomkcdpcnmaaa
open Go Go.Am
theorem zjo {i : Nat} {D : List Nat} (hi : i ∉ D) : ∀ l : List Nat, l.Nodup → i ∈ l → (l.filter fun j => !D.contains j).length = (l.filter fun j => !(i :: D).contains j).length + 1
 | [], _, h => by cases h
 | j :: l, hn, h => by
  obtain ⟨h1, h2⟩ := List.nodup_cons.1 hn
  rw [List.filter_cons, List.filter_cons]
  by_cases e : j = i
  ·subst e
   have e1 : (!D.contains j) = true := by simpa using hi
   have e2 : (!(j :: D).contains j) = false := by simp
   rw [if_pos e1, if_neg (by rw [e2]; exact Bool.false_ne_true), List.length_cons]
   congr 2
   refine List.filter_congr fun x hx => ?_
   have hx2 : x ≠ j := fun e => h1 (e ▸ hx)
   simp [hx2]
  ·have hm : i ∈ l := (List.mem_cons.1 h).resolve_left fun e2 => e e2.symm
   have ih := zjo hi l h2 hm
   have e3 : (!(i :: D).contains j) = (!D.contains j) := by simp [e]
   rw [e3]
   split
   ·rw [List.length_cons, List.length_cons, ih]
   ·exact ih
theorem zsa {p : Nat → Prop} : ∀ {l : List Nat}, (∀ i ∈ l, p i) → AllL p l
 | [], _ => trivial
 | i :: _, h => ⟨h i (List.mem_cons_self ..), zsa fun j hj => h j (List.mem_cons_of_mem _ hj)⟩
theorem zrt {pres : List (List Nat)} {N : Nat} {D : List Nat} (hp : ∀ i < N, ∀ p ∈ pres.getD i [], p < i) (h : zdd pres N D = []) : ∀ i < N, i ∈ D := by
 intro i
 induction i using Nat.strongRecOn with
 | ind i ih =>
  intro hi
  refine Classical.byContradiction fun hni => ?_
  have : i ∈ zdd pres N D := by
   unfold zdd
   rw [List.mem_filter]
   refine ⟨List.mem_range.2 hi, ?_⟩
   rw [Bool.and_eq_true, List.all_eq_true]
   refine ⟨by simpa using hni, fun p hpp => ?_⟩
   have := hp i hi p hpp
   exact List.contains_iff_mem.2 (ih p this (by omega))
  rw [h] at this
  cases this
theorem zsq {P : Program} {w0 : World} {N0 : Nat} {rd : Option (Nat × Nat)} {ios : List Opr} {pres : List (List Nat)} {K : AS → Prop} (hp : ∀ i < ios.length, ∀ p ∈ pres.getD i [], p < i) (I : List Nat → AS → Prop)
  (step : ∀ n D S i, I D S → i < ios.length → i ∉ D → (∀ p ∈ pres.getD i [], p ∈ D) → (∀ S', I (i :: D) S' → AnyF P w0 N0 rd ios pres n (i :: D) S' K) → StF P w0 N0 rd ios pres n D S K i)
  (fin : ∀ D S, I D S → (∀ i < ios.length, i ∈ D) → K S) : ∀ (n : Nat) (D : List Nat) (S : AS), I D S → ((List.range ios.length).filter fun i => !D.contains i).length = n → AnyF P w0 N0 rd ios pres n D S K
 | 0, D, S, hI, hn => by
  have h0 := List.length_eq_zero_iff.1 hn
  rw [List.filter_eq_nil_iff] at h0
  have hall : ∀ i < ios.length, i ∈ D := fun i hi => by
   have := h0 i (List.mem_range.2 hi)
   simpa using this
  refine ⟨?_, fin D S hI hall⟩
  unfold zdd
  rw [List.filter_eq_nil_iff]
  intro i hi
  have := List.contains_iff_mem.2 (hall i (List.mem_range.1 hi))
  rw [this]
  simp
 | n + 1, D, S, hI, hn => by
  refine AnyF.succ (fun h => ?_) (zsa fun i hi => ?_)
  ·have hall := zrt hp h
   rw [List.filter_eq_nil_iff.2 fun i hi => by
    have := List.contains_iff_mem.2 (hall i (List.mem_range.1 hi))
    rw [this]
    simp] at hn
   cases hn
  ·unfold zdd at hi
   rw [List.mem_filter, Bool.and_eq_true, List.all_eq_true] at hi
   obtain ⟨h1, h2, h3⟩ := hi
   have h2 : i ∉ D := by simpa using h2
   refine step n D S i hI (List.mem_range.1 h1) h2 (fun p hp => List.contains_iff_mem.1 (h3 p hp)) fun S' hI' => zsq hp I step fin n (i :: D) S' hI' ?_
   have := zjo h2 (List.range ios.length) List.nodup_range h1
   omega
theorem zus (d : Nat) (v : AV) (l : List (Nat × AV)) : zbm d ((d, v) :: l) = some v := by
 rw [zbm, Nat.beq_refl]
theorem zkc {d t : Nat} (h : d ≠ t) (v : AV) (l : List (Nat × AV)) : zbm t ((d, v) :: l) = zbm t l := by
 rw [zbm]
 cases hb : Nat.beq d t with
 | true => exact absurd (Nat.eq_of_beq_eq_true hb) h
 | false => rfl
def Lk (base : List (Nat × AV)) (dv : Nat → Option (Nat × AV)) (D : List Nat) (l : List (Nat × AV)) : Prop :=
 (∀ t v, (t, v) ∈ base → zbm t l = some v) ∧ ∀ j d v, dv j = some (d, v) → j ∈ D → zbm d l = some v
theorem Lk.add {base : List (Nat × AV)} {dv dv' : Nat → Option (Nat × AV)} {D : List Nat} {l : List (Nat × AV)} {i d : Nat} {v : AV} (h : Lk base dv D l) (hi : dv' i = some (d, v)) (hb : ∀ t v, (t, v) ∈ base → d ≠ t) (hs : ∀ j, j ∈ D → j ≠ i → dv' j = dv j) (hd : ∀ j e w, j ≠ i → dv' j = some (e, w) → d ≠ e) (hni : i ∉ D) :
  Lk base dv' (i :: D) ((d, v) :: l) := by
 refine ⟨fun t w ht => by rw [zkc (hb t w ht)]; exact h.1 t w ht, fun j e w hj hm => ?_⟩
 by_cases hji : j = i
 ·subst hji
  rw [hi] at hj
  injection hj with hj
  injection hj with h1 h2
  subst h1 h2
  exact zus ..
 ·rw [zkc (hd j e w hji hj)]
  have hm2 : j ∈ D := (List.mem_cons.1 hm).resolve_left hji
  exact h.2 j e w (by rw [← hs j hm2 hji]; exact hj) hm2
end Go.Proofs.Ytknomkcdpcnmaaa
namespace Go.Proofs.Ytknomkcdpcnmaaa
open Go Go.Am
structure Nm where
 i4 : Nat
 s4 : Nat
 i12 : Nat
 s12 : Nat
 s13 : Nat
 i15 : Nat
 s15 : Nat
structure Mem6 (m : Nat) (s : List (BitVec 64)) (x : BitVec 64) (D : List Nat) (hp : List (Nat × Nat × AObj)) (nx : Nat) (q : Nm) : Prop where
 h4 : 4 ∈ D → 13 ∉ D → Am.look q.i4 hp = some (q.s4, .cells (s.map cU))
 l4 : 4 ∈ D → q.i4 < nx
 h12 : 12 ∈ D → Am.look q.i12 hp = some (q.s12, .cells [cU x])
 l12 : 12 ∈ D → q.i12 < nx
 h13 : 13 ∈ D → Am.look q.i4 hp = some (q.s13, .cells ((s ++ [x]).map cU))
 h15 : 15 ∈ D → 16 ∉ D → Am.look q.i15 hp = some (q.s15, .cells [.int .i64 0, .nils])
 l15 : 15 ∈ D → q.i15 < nx
 h16 : 16 ∈ D → Am.look q.i15 hp = some (q.s15, .cells [.int .i64 (m : Nat), .ms q.i4 q.s13 1 0 (s.length + 1) none])
 d1 : 4 ∈ D → 15 ∈ D → q.i4 ≠ q.i15
 d2 : 4 ∈ D → 12 ∈ D → q.i4 ≠ q.i12
 d3 : 12 ∈ D → 15 ∈ D → q.i12 ≠ q.i15
 c13 : 13 ∈ D → 4 ∈ D ∧ 12 ∈ D
 c16 : 16 ∈ D → 13 ∈ D ∧ 15 ∈ D
 c14 : 14 ∈ D → 13 ∈ D
theorem Mem6.keep {m : Nat} {s : List (BitVec 64)} {x : BitVec 64} {D : List Nat} {hp : List (Nat × Nat × AObj)} {nx j : Nat} {q : Nm} (h : Mem6 m s x D hp nx q) (n4 : j ≠ 4) (n12 : j ≠ 12) (n13 : j ≠ 13) (n15 : j ≠ 15) (n16 : j ≠ 16) (h14 : j = 14 → 13 ∈ D) : Mem6 m s x (j :: D) hp nx q := by
 have e : ∀ k, j ≠ k → k ∈ j :: D → k ∈ D := fun k hk hm => (List.mem_cons.1 hm).resolve_left fun e => hk e.symm
 have f : ∀ k, k ∉ j :: D → k ∉ D := fun k hk hm => hk (List.mem_cons_of_mem _ hm)
 exact ⟨fun a b => h.h4 (e 4 n4 a) (f 13 b), fun a => h.l4 (e 4 n4 a), fun a => h.h12 (e 12 n12 a), fun a => h.l12 (e 12 n12 a), fun a => h.h13 (e 13 n13 a), fun a b => h.h15 (e 15 n15 a) (f 16 b), fun a => h.l15 (e 15 n15 a), fun a => h.h16 (e 16 n16 a), fun a b => h.d1 (e 4 n4 a) (e 15 n15 b), fun a b => h.d2 (e 4 n4 a) (e 12 n12 b), fun a b => h.d3 (e 12 n12 a) (e 15 n15 b), fun a => ⟨List.mem_cons_of_mem _ (h.c13 (e 13 n13 a)).1, List.mem_cons_of_mem _ (h.c13 (e 13 n13 a)).2⟩, fun a => ⟨List.mem_cons_of_mem _ (h.c16 (e 16 n16 a)).1, List.mem_cons_of_mem _ (h.c16 (e 16 n16 a)).2⟩, fun a => List.mem_cons_of_mem _ ((List.mem_cons.1 a).elim (fun e => h14 e.symm) h.c14)⟩
theorem zak {hp : List (Nat × Nat × AObj)} {j nx ck : Nat} {o : AObj} (h : j < nx) : Am.look j ((nx, ck, o) :: hp) = Am.look j hp := by rw [zag, if_neg (by omega)]
theorem zh3 {hp : List (Nat × Nat × AObj)} {nx ck : Nat} {o : AObj} : Am.look nx ((nx, ck, o) :: hp) = some (ck, o) := by rw [zag, if_pos rfl]
theorem Mem6.alloc {m : Nat} {s : List (BitVec 64)} {x : BitVec 64} {D : List Nat} {hp : List (Nat × Nat × AObj)} {nx ck : Nat} {q : Nm} (h : Mem6 m s x D hp nx q) (n15 : 15 ∉ D) : Mem6 m s x (15 :: D) ((nx, ck, .cells [.int .i64 0, .nils]) :: hp) (nx + 1) { q with i15 := nx, s15 := ck } := by
 have e : ∀ k, 15 ≠ k → k ∈ 15 :: D → k ∈ D := fun k hk hm => (List.mem_cons.1 hm).resolve_left fun e => hk e.symm
 have f : ∀ k, k ∉ 15 :: D → k ∉ D := fun k hk hm => hk (List.mem_cons_of_mem _ hm)
 have g : 16 ∉ D := fun h16 => n15 (h.c16 h16).2
 refine ⟨fun a b => ?_, fun a => ?_, fun a => ?_, fun a => ?_, fun a => ?_, fun _ _ => zh3, fun _ => Nat.lt_succ_self _, fun a => absurd (e 16 (by decide) a) g, fun a _ => ?_, fun a b => h.d2 (e 4 (by decide) a) (e 12 (by decide) b), fun a _ => ?_, fun a => ⟨List.mem_cons_of_mem _ (h.c13 (e 13 (by decide) a)).1, List.mem_cons_of_mem _ (h.c13 (e 13 (by decide) a)).2⟩, fun a => absurd (e 16 (by decide) a) g, fun a => List.mem_cons_of_mem _ (h.c14 (e 14 (by decide) a))⟩
 ·rw [zak (h.l4 (e 4 (by decide) a))]; exact h.h4 (e 4 (by decide) a) (f 13 b)
 ·have := h.l4 (e 4 (by decide) a); show q.i4 < nx + 1; omega
 ·rw [zak (h.l12 (e 12 (by decide) a))]; exact h.h12 (e 12 (by decide) a)
 ·have := h.l12 (e 12 (by decide) a); show q.i12 < nx + 1; omega
 ·rw [zak (h.l4 (h.c13 (e 13 (by decide) a)).1)]; exact h.h13 (e 13 (by decide) a)
 ·have := h.l4 (e 4 (by decide) a); show q.i4 ≠ nx; omega
 ·have := h.l12 (e 12 (by decide) a); show q.i12 ≠ nx; omega
theorem Mem6.slice {m : Nat} {s : List (BitVec 64)} {x : BitVec 64} {D : List Nat} {hp : List (Nat × Nat × AObj)} {nx ck : Nat} {q : Nm} (h : Mem6 m s x D hp nx q) (n12 : 12 ∉ D) : Mem6 m s x (12 :: D) ((nx, ck, .cells [cU x]) :: hp) (nx + 1) { q with i12 := nx, s12 := ck } := by
 have e : ∀ k, 12 ≠ k → k ∈ 12 :: D → k ∈ D := fun k hk hm => (List.mem_cons.1 hm).resolve_left fun e => hk e.symm
 have f : ∀ k, k ∉ 12 :: D → k ∉ D := fun k hk hm => hk (List.mem_cons_of_mem _ hm)
 have g13 : 13 ∉ D := fun h13 => n12 (h.c13 h13).2
 have g : 16 ∉ D := fun h16 => g13 (h.c16 h16).1
 refine ⟨fun a b => ?_, fun a => ?_, fun _ => zh3, fun _ => Nat.lt_succ_self _, fun a => absurd (e 13 (by decide) a) g13, fun a b => ?_, fun a => ?_, fun a => absurd (e 16 (by decide) a) g, fun a b => h.d1 (e 4 (by decide) a) (e 15 (by decide) b), fun a _ => ?_, fun _ b => ?_, fun a => absurd (e 13 (by decide) a) g13, fun a => absurd (e 16 (by decide) a) g, fun a => absurd (h.c14 (e 14 (by decide) a)) g13⟩
 ·rw [zak (h.l4 (e 4 (by decide) a))]; exact h.h4 (e 4 (by decide) a) (f 13 b)
 ·have := h.l4 (e 4 (by decide) a); show q.i4 < nx + 1; omega
 ·rw [zak (h.l15 (e 15 (by decide) a))]; exact h.h15 (e 15 (by decide) a) (f 16 b)
 ·have := h.l15 (e 15 (by decide) a); show q.i15 < nx + 1; omega
 ·have := h.l4 (e 4 (by decide) a); show q.i4 ≠ nx; omega
 ·have := h.l15 (e 15 (by decide) b); show nx ≠ q.i15; omega
theorem Mem6.clone {m : Nat} {s : List (BitVec 64)} {x : BitVec 64} {D : List Nat} {hp : List (Nat × Nat × AObj)} {nx ck : Nat} {q : Nm} (h : Mem6 m s x D hp nx q) (n4 : 4 ∉ D) : Mem6 m s x (4 :: D) ((nx + 1, ck + 1, .cells (s.map cU)) :: (nx, ck, .cells []) :: hp) (nx + 1 + 1) { q with i4 := nx + 1, s4 := ck + 1 } := by
 have e : ∀ k, 4 ≠ k → k ∈ 4 :: D → k ∈ D := fun k hk hm => (List.mem_cons.1 hm).resolve_left fun e => hk e.symm
 have f : ∀ k, k ∉ 4 :: D → k ∉ D := fun k hk hm => hk (List.mem_cons_of_mem _ hm)
 have g13 : 13 ∉ D := fun h13 => n4 (h.c13 h13).1
 have g : 16 ∉ D := fun h16 => g13 (h.c16 h16).1
 refine ⟨fun _ _ => zh3, fun _ => Nat.lt_succ_self _, fun a => ?_, fun a => ?_, fun a => absurd (e 13 (by decide) a) g13, fun a b => ?_, fun a => ?_, fun a => absurd (e 16 (by decide) a) g, fun _ b => ?_, fun _ b => ?_, fun a b => h.d3 (e 12 (by decide) a) (e 15 (by decide) b), fun a => absurd (e 13 (by decide) a) g13, fun a => absurd (e 16 (by decide) a) g, fun a => absurd (h.c14 (e 14 (by decide) a)) g13⟩
 ·have := h.l12 (e 12 (by decide) a)
  rw [zak (show q.i12 < nx + 1 by omega), zak this]
  exact h.h12 (e 12 (by decide) a)
 ·have := h.l12 (e 12 (by decide) a); show q.i12 < nx + 1 + 1; omega
 ·have := h.l15 (e 15 (by decide) a)
  rw [zak (show q.i15 < nx + 1 by omega), zak this]
  exact h.h15 (e 15 (by decide) a) (f 16 b)
 ·have := h.l15 (e 15 (by decide) a); show q.i15 < nx + 1 + 1; omega
 ·have := h.l15 (e 15 (by decide) b); show nx + 1 ≠ q.i15; omega
 ·have := h.l12 (e 12 (by decide) b); show nx + 1 ≠ q.i12; omega
theorem Mem6.app {m : Nat} {s : List (BitVec 64)} {x : BitVec 64} {D : List Nat} {hp : List (Nat × Nat × AObj)} {nx ck : Nat} {q : Nm} (h : Mem6 m s x D hp nx q) (h4 : 4 ∈ D) (h12 : 12 ∈ D) (n13 : 13 ∉ D) : Mem6 m s x (13 :: D) (zaz q.i4 (ck, .cells ((s ++ [x]).map cU)) hp) nx { q with s13 := ck } := by
 have e : ∀ k, 13 ≠ k → k ∈ 13 :: D → k ∈ D := fun k hk hm => (List.mem_cons.1 hm).resolve_left fun e => hk e.symm
 have f : ∀ k, k ∉ 13 :: D → k ∉ D := fun k hk hm => hk (List.mem_cons_of_mem _ hm)
 have g : 16 ∉ D := fun h16 => n13 (h.c16 h16).1
 have ne : ∀ {j : Nat}, q.i4 ≠ j → Am.look j (zaz q.i4 (ck, .cells ((s ++ [x]).map cU)) hp) = Am.look j hp := fun hj => by rw [za5, if_neg hj]
 refine ⟨fun _ b => absurd (List.mem_cons_self ..) b, fun _ => h.l4 h4, fun _ => ?_, fun _ => h.l12 h12, fun _ => by rw [za5, if_pos rfl], fun a b => ?_, fun a => h.l15 (e 15 (by decide) a), fun a => absurd (e 16 (by decide) a) g, fun _ b => h.d1 h4 (e 15 (by decide) b), fun _ _ => h.d2 h4 h12, fun _ b => h.d3 h12 (e 15 (by decide) b), fun _ => ⟨List.mem_cons_of_mem _ h4, List.mem_cons_of_mem _ h12⟩, fun a => absurd (e 16 (by decide) a) g, fun _ => List.mem_cons_self ..⟩
 ·rw [ne (h.d2 h4 h12)]; exact h.h12 h12
 ·rw [ne (h.d1 h4 (e 15 (by decide) a))]; exact h.h15 (e 15 (by decide) a) (f 16 b)
theorem Mem6.sto {m : Nat} {s : List (BitVec 64)} {x : BitVec 64} {D : List Nat} {hp : List (Nat × Nat × AObj)} {nx : Nat} {q : Nm} (h : Mem6 m s x D hp nx q) (h4 : 4 ∈ D) (h12 : 12 ∈ D) (h13 : 13 ∈ D) (h15 : 15 ∈ D) : Mem6 m s x (16 :: D) (zaz q.i15 (q.s15, .cells [.int .i64 (m : Nat), .ms q.i4 q.s13 1 0 (s.length + 1) none]) hp) nx q := by
 have ne : ∀ {j : Nat} {o : AObj}, q.i15 ≠ j → Am.look j (zaz q.i15 (q.s15, o) hp) = Am.look j hp := fun hj => by rw [za5, if_neg hj]
 refine ⟨fun _ b => absurd (List.mem_cons_of_mem _ h13) b, fun _ => h.l4 h4, fun _ => ?_, fun _ => h.l12 h12, fun _ => ?_, fun _ b => absurd (List.mem_cons_self ..) b, fun _ => h.l15 h15, fun _ => by rw [za5, if_pos rfl], fun _ _ => h.d1 h4 h15, fun _ _ => h.d2 h4 h12, fun _ _ => h.d3 h12 h15, fun _ => ⟨List.mem_cons_of_mem _ h4, List.mem_cons_of_mem _ h12⟩, fun _ => ⟨List.mem_cons_of_mem _ h13, List.mem_cons_of_mem _ h15⟩, fun _ => List.mem_cons_of_mem _ h13⟩
 ·rw [ne (fun e => h.d3 h12 h15 e.symm)]; exact h.h12 h12
 ·rw [ne (fun e => h.d1 h4 h15 e.symm)]; exact h.h13 h13
end Go.Proofs.Ytknomkcdpcnmaaa
namespace Go.Proofs.Ytknomkcdpcnmaaa
open Go Go.Am
def zru : List Opr := [⟨(some 103), .faddr 0 (.t 1), none⟩, ⟨(some 104), .load none (.t 103), none⟩, ⟨(some 105), .faddr 1 (.t 1), none⟩, ⟨(some 106), .load none (.t 105), none⟩, ⟨(some 107), .call (.c (.fn 27 [] [])) [(.t 106)], none⟩, ⟨(some 108), .faddr 1 (.t 1), none⟩, ⟨(some 109), .load none (.t 108), none⟩, ⟨(some 110), .idxs 1 (.t 109) (.c (.int .i64 0)), none⟩, ⟨(some 111), .load none (.t 110), none⟩, ⟨(some 112), .bslice 1 1 [.int .u64 0] [(0, 1, (.t 111))], none⟩, ⟨(some 113), .append 1 8 [.int .u64 0] (.t 107) (.t 112), none⟩, ⟨(some 114), .build [.int .i64 0, .nils] [(0, 1, (.t 104)), (1, 1, (.t 113))], none⟩, ⟨(some 11), .alloc [.int .i64 0, .nils], none⟩, ⟨none, .store 2 (.t 11) (.t 114), none⟩]
def reg5p : List (List Nat) := [[], [0], [], [2], [3], [], [5], [6], [7], [8], [4, 9, 4], [1, 10], [], [12, 11, 10, 0, 1, 2, 3, 4, 5, 6, 7, 8, 9, 10, 11, 12]]
def dv5 (m : Nat) (s : List (BitVec 64)) (x : BitVec 64) (q : Nm) : Nat → Option (Nat × AV)
 | 0 => some (103, .vptr [.int .i64 (m : Nat), .vs (cUs s)])
 | 1 => some (104, .int .i64 (m : Nat))
 | 2 => some (105, .vptr [.vs (cUs s)])
 | 3 => some (106, .vs (cUs s))
 | 4 => some (107, .ms q.i4 q.s4 1 0 s.length none)
 | 5 => some (108, .vptr [.vs (cUs s)])
 | 6 => some (109, .vs (cUs s))
 | 7 => some (110, .vptr [cU x])
 | 8 => some (111, cU x)
 | 9 => some (112, .ms q.i12 q.s12 1 0 1 (some 1))
 | 10 => some (113, .ms q.i4 q.s13 1 0 (s.length + 1) none)
 | 11 => some (114, .agg [.int .i64 (m : Nat), .ms q.i4 q.s13 1 0 (s.length + 1) none])
 | 12 => some (11, .mptr q.i15 q.s15 0)
 | _ => none
def dd5 : Nat → Nat
 | 12 => 11
 | j => 103 + j
theorem ztm {m : Nat} {s : List (BitVec 64)} {x : BitVec 64} {q : Nm} : ∀ {j e : Nat} {v : AV}, dv5 m s x q j = some (e, v) → e = dd5 j ∧ j < 13
 | 0, _, _, h | 1, _, _, h | 2, _, _, h | 3, _, _, h | 4, _, _, h | 5, _, _, h | 6, _, _, h | 7, _, _, h | 8, _, _, h | 9, _, _, h | 10, _, _, h | 11, _, _, h | 12, _, _, h => by
  injection h with h
  injection h with h1 h2
  exact ⟨h1.symm, by decide⟩
 | j + 13, _, _, h => by cases h
theorem dd5_ne {i j : Nat} (hi : i < 13) (hj : j < 13) (h : j ≠ i) : dd5 i ≠ dd5 j := by
 have : ∀ a < 13, ∀ b < 13, b ≠ a → dd5 a ≠ dd5 b := by decide
 exact this i hi j hj h
structure Mem5 (m : Nat) (s : List (BitVec 64)) (x : BitVec 64) (D : List Nat) (hp : List (Nat × Nat × AObj)) (nx : Nat) (q : Nm) : Prop where
 h4 : 4 ∈ D → 10 ∉ D → Am.look q.i4 hp = some (q.s4, .cells (s.map cU))
 l4 : 4 ∈ D → q.i4 < nx
 h12 : 9 ∈ D → Am.look q.i12 hp = some (q.s12, .cells [cU x])
 l12 : 9 ∈ D → q.i12 < nx
 h13 : 10 ∈ D → Am.look q.i4 hp = some (q.s13, .cells ((s ++ [x]).map cU))
 h15 : 12 ∈ D → 13 ∉ D → Am.look q.i15 hp = some (q.s15, .cells [.int .i64 0, .nils])
 l15 : 12 ∈ D → q.i15 < nx
 h16 : 13 ∈ D → Am.look q.i15 hp = some (q.s15, .cells [.int .i64 (m : Nat), .ms q.i4 q.s13 1 0 (s.length + 1) none])
 d1 : 4 ∈ D → 12 ∈ D → q.i4 ≠ q.i15
 d2 : 4 ∈ D → 9 ∈ D → q.i4 ≠ q.i12
 d3 : 9 ∈ D → 12 ∈ D → q.i12 ≠ q.i15
 c13 : 10 ∈ D → 4 ∈ D ∧ 9 ∈ D
 c16 : 13 ∈ D → 10 ∈ D ∧ 12 ∈ D
 c14 : 11 ∈ D → 10 ∈ D
theorem Mem5.keep {m : Nat} {s : List (BitVec 64)} {x : BitVec 64} {D : List Nat} {hp : List (Nat × Nat × AObj)} {nx j : Nat} {q : Nm} (h : Mem5 m s x D hp nx q) (n4 : j ≠ 4) (n12 : j ≠ 9) (n13 : j ≠ 10) (n15 : j ≠ 12) (n16 : j ≠ 13) (h14 : j = 11 → 10 ∈ D) : Mem5 m s x (j :: D) hp nx q := by
 have e : ∀ k, j ≠ k → k ∈ j :: D → k ∈ D := fun k hk hm => (List.mem_cons.1 hm).resolve_left fun e => hk e.symm
 have f : ∀ k, k ∉ j :: D → k ∉ D := fun k hk hm => hk (List.mem_cons_of_mem _ hm)
 exact ⟨fun a b => h.h4 (e 4 n4 a) (f 10 b), fun a => h.l4 (e 4 n4 a), fun a => h.h12 (e 9 n12 a), fun a => h.l12 (e 9 n12 a), fun a => h.h13 (e 10 n13 a), fun a b => h.h15 (e 12 n15 a) (f 13 b), fun a => h.l15 (e 12 n15 a), fun a => h.h16 (e 13 n16 a), fun a b => h.d1 (e 4 n4 a) (e 12 n15 b), fun a b => h.d2 (e 4 n4 a) (e 9 n12 b), fun a b => h.d3 (e 9 n12 a) (e 12 n15 b), fun a => ⟨List.mem_cons_of_mem _ (h.c13 (e 10 n13 a)).1, List.mem_cons_of_mem _ (h.c13 (e 10 n13 a)).2⟩, fun a => ⟨List.mem_cons_of_mem _ (h.c16 (e 13 n16 a)).1, List.mem_cons_of_mem _ (h.c16 (e 13 n16 a)).2⟩, fun a => List.mem_cons_of_mem _ ((List.mem_cons.1 a).elim (fun e => h14 e.symm) h.c14)⟩
def zhn (m : Nat) (s : List (BitVec 64)) (k : Int) : List (Nat × AV) := [(1, .vptr [.int .i64 (m : Nat), .vs (cUs s)]), (4, .int .i64 k)]
def Inv5 (m : Nat) (s : List (BitVec 64)) (k : Int) (x : BitVec 64) (D : List Nat) (S : AS) : Prop :=
 ∃ l hp nx ck q, S = st 173 l hp nx ck ∧ Lk (zhn m s k) (dv5 m s x q) D l ∧ Mem5 m s x D hp nx q
theorem zpj {m : Nat} {s : List (BitVec 64)} {k : Int} {j : Nat} (hj : j < 13) : ∀ t v, (t, v) ∈ zhn m s k → dd5 j ≠ t := fun t v h => by
 unfold zhn at h
 simp only [List.mem_cons, Prod.mk.injEq, List.not_mem_nil, or_false] at h
 have : ∀ k < 13, 5 ≤ dd5 k := by decide
 have := this j hj
 omega
theorem zm0 {m : Nat} {s : List (BitVec 64)} {k : Int} {x : BitVec 64} {P : Program} {w0 : World} {N0 : Nat} {rd : Option (Nat × Nat)} {K : AS → Prop} {r : Nat} {D : List Nat} {l : List (Nat × AV)} {hp : List (Nat × Nat × AObj)} {nx ck : Nat} {q : Nm} {v : AV} {op : IOp} (j : Nat) (hj : j < 13) (n4 : j ≠ 4) (n12 : j ≠ 9) (n13 : j ≠ 10) (n15 : j ≠ 12) (h14 : j = 11 → 10 ∈ D)
  (hL : Lk (zhn m s k) (dv5 m s x q) D l) (hP : Mem5 m s x D hp nx q) (hni : j ∉ D)
  (hv : dv5 m s x q j = some (dd5 j, v)) (hio : zru[j]? = some ⟨some (dd5 j), op, none⟩) (hok : zbx 173 (some (dd5 j)) = true) (hi : iop (st 173 l hp nx ck) op = some (v, st 173 l hp nx ck))
  (go : ∀ S', Inv5 m s k x (j :: D) S' → AnyF P w0 N0 rd zru reg5p r (j :: D) S' K) : StF P w0 N0 rd zru reg5p r D (st 173 l hp nx ck) K j :=
 zi8 hio hok hi (go _ ⟨_, _, _, _, q, rfl, hL.add hv (zpj hj) (fun _ _ _ => rfl) (fun k e v hk he => by
  obtain ⟨e1, e2⟩ := ztm he
  rw [e1]
  exact dd5_ne hj e2 hk) hni, hP.keep n4 n12 n13 n15 (by omega) h14⟩)
theorem Mem5.alloc {m : Nat} {s : List (BitVec 64)} {x : BitVec 64} {D : List Nat} {hp : List (Nat × Nat × AObj)} {nx ck : Nat} {q : Nm} (h : Mem5 m s x D hp nx q) (n15 : 12 ∉ D) : Mem5 m s x (12 :: D) ((nx, ck, .cells [.int .i64 0, .nils]) :: hp) (nx + 1) { q with i15 := nx, s15 := ck } := by
 have e : ∀ k, 12 ≠ k → k ∈ 12 :: D → k ∈ D := fun k hk hm => (List.mem_cons.1 hm).resolve_left fun e => hk e.symm
 have f : ∀ k, k ∉ 12 :: D → k ∉ D := fun k hk hm => hk (List.mem_cons_of_mem _ hm)
 have g : 13 ∉ D := fun h16 => n15 (h.c16 h16).2
 refine ⟨fun a b => ?_, fun a => ?_, fun a => ?_, fun a => ?_, fun a => ?_, fun _ _ => zh3, fun _ => Nat.lt_succ_self _, fun a => absurd (e 13 (by decide) a) g, fun a _ => ?_, fun a b => h.d2 (e 4 (by decide) a) (e 9 (by decide) b), fun a _ => ?_, fun a => ⟨List.mem_cons_of_mem _ (h.c13 (e 10 (by decide) a)).1, List.mem_cons_of_mem _ (h.c13 (e 10 (by decide) a)).2⟩, fun a => absurd (e 13 (by decide) a) g, fun a => List.mem_cons_of_mem _ (h.c14 (e 11 (by decide) a))⟩
 ·rw [zak (h.l4 (e 4 (by decide) a))]; exact h.h4 (e 4 (by decide) a) (f 10 b)
 ·have := h.l4 (e 4 (by decide) a); show q.i4 < nx + 1; omega
 ·rw [zak (h.l12 (e 9 (by decide) a))]; exact h.h12 (e 9 (by decide) a)
 ·have := h.l12 (e 9 (by decide) a); show q.i12 < nx + 1; omega
 ·rw [zak (h.l4 (h.c13 (e 10 (by decide) a)).1)]; exact h.h13 (e 10 (by decide) a)
 ·have := h.l4 (e 4 (by decide) a); show q.i4 ≠ nx; omega
 ·have := h.l12 (e 9 (by decide) a); show q.i12 ≠ nx; omega
theorem Mem5.slice {m : Nat} {s : List (BitVec 64)} {x : BitVec 64} {D : List Nat} {hp : List (Nat × Nat × AObj)} {nx ck : Nat} {q : Nm} (h : Mem5 m s x D hp nx q) (n12 : 9 ∉ D) : Mem5 m s x (9 :: D) ((nx, ck, .cells [cU x]) :: hp) (nx + 1) { q with i12 := nx, s12 := ck } := by
 have e : ∀ k, 9 ≠ k → k ∈ 9 :: D → k ∈ D := fun k hk hm => (List.mem_cons.1 hm).resolve_left fun e => hk e.symm
 have f : ∀ k, k ∉ 9 :: D → k ∉ D := fun k hk hm => hk (List.mem_cons_of_mem _ hm)
 have g13 : 10 ∉ D := fun h13 => n12 (h.c13 h13).2
 have g : 13 ∉ D := fun h16 => g13 (h.c16 h16).1
 refine ⟨fun a b => ?_, fun a => ?_, fun _ => zh3, fun _ => Nat.lt_succ_self _, fun a => absurd (e 10 (by decide) a) g13, fun a b => ?_, fun a => ?_, fun a => absurd (e 13 (by decide) a) g, fun a b => h.d1 (e 4 (by decide) a) (e 12 (by decide) b), fun a _ => ?_, fun _ b => ?_, fun a => absurd (e 10 (by decide) a) g13, fun a => absurd (e 13 (by decide) a) g, fun a => absurd (h.c14 (e 11 (by decide) a)) g13⟩
 ·rw [zak (h.l4 (e 4 (by decide) a))]; exact h.h4 (e 4 (by decide) a) (f 10 b)
 ·have := h.l4 (e 4 (by decide) a); show q.i4 < nx + 1; omega
 ·rw [zak (h.l15 (e 12 (by decide) a))]; exact h.h15 (e 12 (by decide) a) (f 13 b)
 ·have := h.l15 (e 12 (by decide) a); show q.i15 < nx + 1; omega
 ·have := h.l4 (e 4 (by decide) a); show q.i4 ≠ nx; omega
 ·have := h.l15 (e 12 (by decide) b); show nx ≠ q.i15; omega
theorem Mem5.clone {m : Nat} {s : List (BitVec 64)} {x : BitVec 64} {D : List Nat} {hp : List (Nat × Nat × AObj)} {nx ck : Nat} {q : Nm} (h : Mem5 m s x D hp nx q) (n4 : 4 ∉ D) : Mem5 m s x (4 :: D) ((nx + 1, ck + 1, .cells (s.map cU)) :: (nx, ck, .cells []) :: hp) (nx + 1 + 1) { q with i4 := nx + 1, s4 := ck + 1 } := by
 have e : ∀ k, 4 ≠ k → k ∈ 4 :: D → k ∈ D := fun k hk hm => (List.mem_cons.1 hm).resolve_left fun e => hk e.symm
 have f : ∀ k, k ∉ 4 :: D → k ∉ D := fun k hk hm => hk (List.mem_cons_of_mem _ hm)
 have g13 : 10 ∉ D := fun h13 => n4 (h.c13 h13).1
 have g : 13 ∉ D := fun h16 => g13 (h.c16 h16).1
 refine ⟨fun _ _ => zh3, fun _ => Nat.lt_succ_self _, fun a => ?_, fun a => ?_, fun a => absurd (e 10 (by decide) a) g13, fun a b => ?_, fun a => ?_, fun a => absurd (e 13 (by decide) a) g, fun _ b => ?_, fun _ b => ?_, fun a b => h.d3 (e 9 (by decide) a) (e 12 (by decide) b), fun a => absurd (e 10 (by decide) a) g13, fun a => absurd (e 13 (by decide) a) g, fun a => absurd (h.c14 (e 11 (by decide) a)) g13⟩
 ·have := h.l12 (e 9 (by decide) a)
  rw [zak (show q.i12 < nx + 1 by omega), zak this]
  exact h.h12 (e 9 (by decide) a)
 ·have := h.l12 (e 9 (by decide) a); show q.i12 < nx + 1 + 1; omega
 ·have := h.l15 (e 12 (by decide) a)
  rw [zak (show q.i15 < nx + 1 by omega), zak this]
  exact h.h15 (e 12 (by decide) a) (f 13 b)
 ·have := h.l15 (e 12 (by decide) a); show q.i15 < nx + 1 + 1; omega
 ·have := h.l15 (e 12 (by decide) b); show nx + 1 ≠ q.i15; omega
 ·have := h.l12 (e 9 (by decide) b); show nx + 1 ≠ q.i12; omega
theorem Mem5.app {m : Nat} {s : List (BitVec 64)} {x : BitVec 64} {D : List Nat} {hp : List (Nat × Nat × AObj)} {nx ck : Nat} {q : Nm} (h : Mem5 m s x D hp nx q) (h4 : 4 ∈ D) (h12 : 9 ∈ D) (n13 : 10 ∉ D) : Mem5 m s x (10 :: D) (zaz q.i4 (ck, .cells ((s ++ [x]).map cU)) hp) nx { q with s13 := ck } := by
 have e : ∀ k, 10 ≠ k → k ∈ 10 :: D → k ∈ D := fun k hk hm => (List.mem_cons.1 hm).resolve_left fun e => hk e.symm
 have f : ∀ k, k ∉ 10 :: D → k ∉ D := fun k hk hm => hk (List.mem_cons_of_mem _ hm)
 have g : 13 ∉ D := fun h16 => n13 (h.c16 h16).1
 have ne : ∀ {j : Nat}, q.i4 ≠ j → Am.look j (zaz q.i4 (ck, .cells ((s ++ [x]).map cU)) hp) = Am.look j hp := fun hj => by rw [za5, if_neg hj]
 refine ⟨fun _ b => absurd (List.mem_cons_self ..) b, fun _ => h.l4 h4, fun _ => ?_, fun _ => h.l12 h12, fun _ => by rw [za5, if_pos rfl], fun a b => ?_, fun a => h.l15 (e 12 (by decide) a), fun a => absurd (e 13 (by decide) a) g, fun _ b => h.d1 h4 (e 12 (by decide) b), fun _ _ => h.d2 h4 h12, fun _ b => h.d3 h12 (e 12 (by decide) b), fun _ => ⟨List.mem_cons_of_mem _ h4, List.mem_cons_of_mem _ h12⟩, fun a => absurd (e 13 (by decide) a) g, fun _ => List.mem_cons_self ..⟩
 ·rw [ne (h.d2 h4 h12)]; exact h.h12 h12
 ·rw [ne (h.d1 h4 (e 12 (by decide) a))]; exact h.h15 (e 12 (by decide) a) (f 13 b)
theorem Mem5.sto {m : Nat} {s : List (BitVec 64)} {x : BitVec 64} {D : List Nat} {hp : List (Nat × Nat × AObj)} {nx : Nat} {q : Nm} (h : Mem5 m s x D hp nx q) (h4 : 4 ∈ D) (h12 : 9 ∈ D) (h13 : 10 ∈ D) (h15 : 12 ∈ D) : Mem5 m s x (13 :: D) (zaz q.i15 (q.s15, .cells [.int .i64 (m : Nat), .ms q.i4 q.s13 1 0 (s.length + 1) none]) hp) nx q := by
 have ne : ∀ {j : Nat} {o : AObj}, q.i15 ≠ j → Am.look j (zaz q.i15 (q.s15, o) hp) = Am.look j hp := fun hj => by rw [za5, if_neg hj]
 refine ⟨fun _ b => absurd (List.mem_cons_of_mem _ h13) b, fun _ => h.l4 h4, fun _ => ?_, fun _ => h.l12 h12, fun _ => ?_, fun _ b => absurd (List.mem_cons_self ..) b, fun _ => h.l15 h15, fun _ => by rw [za5, if_pos rfl], fun _ _ => h.d1 h4 h15, fun _ _ => h.d2 h4 h12, fun _ _ => h.d3 h12 h15, fun _ => ⟨List.mem_cons_of_mem _ h4, List.mem_cons_of_mem _ h12⟩, fun _ => ⟨List.mem_cons_of_mem _ h13, List.mem_cons_of_mem _ h15⟩, fun _ => List.mem_cons_of_mem _ h13⟩
 ·rw [ne (fun e => h.d3 h12 h15 e.symm)]; exact h.h12 h12
 ·rw [ne (fun e => h.d1 h4 h15 e.symm)]; exact h.h13 h13
set_option maxHeartbeats 2000000 in
theorem step5 {w0 : World} {N0 : Nat} {rd : Option (Nat × Nat)} {K : AS → Prop} (m : Nat) (s xs : List (BitVec 64)) (x : BitVec 64) (k : Int) (hsx : s = x :: xs) (hs : s.length ≤ 100) (r : Nat) (D : List Nat) (S : AS) (j : Nat) (hI : Inv5 m s k x D S) (hj : j < 14) (hni : j ∉ D) (hpre : ∀ p ∈ reg5p.getD j [], p ∈ D)
  (go : ∀ S', Inv5 m s k x (j :: D) S' → AnyF Try.prog w0 N0 rd zru reg5p r (j :: D) S' K) : StF Try.prog w0 N0 rd zru reg5p r D S K j := by
 obtain ⟨l, hp, nx, ck, q, rfl, hL, hP⟩ := hI
 have b1 : zbm 1 l = some (.vptr [.int .i64 (m : Nat), .vs (cUs s)]) := hL.1 _ _ (by unfold zhn; simp)
 have pr : ∀ j d v, dv5 m s x q j = some (d, v) → j ∈ D → zbm d l = some v := hL.2
 have ad : ∀ {i : Nat} {v : AV} {q' : Nm}, i < 13 → i ∉ D → dv5 m s x q' i = some (dd5 i, v) → (∀ j, j ∈ D → j ≠ i → dv5 m s x q' j = dv5 m s x q j) → Lk (zhn m s k) (dv5 m s x q') (i :: D) ((dd5 i, v) :: l) := fun hi hn hv hs => hL.add hv (zpj hi) hs (fun k e v hk he => by
  obtain ⟨e1, e2⟩ := ztm he
  rw [e1]
  exact dd5_ne hi e2 hk) hn
 match j, hj, hni, hpre, go with
 | 0, _, hni, hpre, go => exact zm0 0 (by decide) (by decide) (by decide) (by decide) (by decide) (fun e => by cases e) hL hP hni rfl rfl rfl (zhw b1 rfl rfl) go
 | 1, _, hni, hpre, go => exact zm0 1 (by decide) (by decide) (by decide) (by decide) (by decide) (fun e => by cases e) hL hP hni rfl rfl rfl (zk8 (pr 0 103 _ rfl (hpre 0 (by decide))) rfl) go
 | 2, _, hni, hpre, go => exact zm0 2 (by decide) (by decide) (by decide) (by decide) (by decide) (fun e => by cases e) hL hP hni rfl rfl rfl (zhw b1 rfl rfl) go
 | 3, _, hni, hpre, go => exact zm0 3 (by decide) (by decide) (by decide) (by decide) (by decide) (fun e => by cases e) hL hP hni rfl rfl rfl (zk8 (pr 2 105 _ rfl (hpre 2 (by decide))) rfl) go
 | 5, _, hni, hpre, go => exact zm0 5 (by decide) (by decide) (by decide) (by decide) (by decide) (fun e => by cases e) hL hP hni rfl rfl rfl (zhw b1 rfl rfl) go
 | 6, _, hni, hpre, go => exact zm0 6 (by decide) (by decide) (by decide) (by decide) (by decide) (fun e => by cases e) hL hP hni rfl rfl rfl (zk8 (pr 5 108 _ rfl (hpre 5 (by decide))) rfl) go
 | 7, _, hni, hpre, go => exact zm0 7 (by decide) (by decide) (by decide) (by decide) (by decide) (fun e => by cases e) hL hP hni rfl rfl rfl (g_idxs (pr 6 109 _ rfl (hpre 6 (by decide))) rfl (Int.le_refl 0) (by rw [hsx]; rfl) rfl) go
 | 8, _, hni, hpre, go => exact zm0 8 (by decide) (by decide) (by decide) (by decide) (by decide) (fun e => by cases e) hL hP hni rfl rfl rfl (zk8 (pr 7 110 _ rfl (hpre 7 (by decide))) rfl) go
 | 11, _, hni, hpre, go =>
  have h1 := pr 1 104 _ rfl (hpre 1 (by decide))
  have h2 := pr 10 113 _ rfl (hpre 10 (by decide))
  exact zm0 11 (by decide) (by decide) (by decide) (by decide) (by decide) (fun _ => hpre 10 (by decide)) hL hP hni rfl rfl rfl (ztw (pl := [(0, .int .i64 (m : Nat)), (1, .ms q.i4 q.s13 1 0 (s.length + 1) none)]) (by simp only [zgo, zb1, h1, h2, AV.cells?]; rfl) rfl) go
 | 4, _, hni, hpre, go =>
  have h1 := pr 3 106 _ rfl (hpre 3 (by decide))
  have hne : s ≠ [] := by rw [hsx]; exact List.cons_ne_nil _ _
  refine zml (i := 4) _ rfl rfl rfl (vs := [.vs (cUs s)]) (by simp only [zgy, zb1, h1]) (zhs (clone27t s hne (by omega) _)) (fun v H hF => fun _ h => absurd h List.not_mem_nil) fun v H hF => ?_
  obtain ⟨e1, e2⟩ := hF
  subst e1 e2
  exact go _ ⟨_, _, _, _, { q with i4 := nx + 1, s4 := ck + 1 }, rfl, ad (i := 4) (by decide) hni rfl (fun k hk hkj => by
    match k, hkj with
    | 0, _ | 1, _ | 2, _ | 3, _ | 5, _ | 6, _ | 7, _ | 8, _ | 9, _ | 12, _ => rfl
    | 10, _ => exact absurd (hP.c13 hk).1 hni
    | 11, _ => exact absurd (hP.c14 hk) fun h => hni (hP.c13 h).1
    | 4, h => exact absurd rfl h
    | k + 13, _ => rfl), hP.clone hni⟩
 | 9, _, hni, hpre, go =>
  have h1 := pr 8 111 _ rfl (hpre 8 (by decide))
  exact zi8 (i := 9) rfl rfl (zq2 (pl := [(0, cU x)]) (by simp only [zgo, zb1, h1]; rfl) rfl) (go _ ⟨_, _, _, _, { q with i12 := nx, s12 := ck }, rfl, ad (i := 9) (by decide) hni rfl (fun k hk hkj => by
   match k, hkj with
   | 0, _ | 1, _ | 2, _ | 3, _ | 4, _ | 5, _ | 6, _ | 7, _ | 8, _ | 10, _ | 11, _ | 12, _ => rfl
   | 9, h => exact absurd rfl h
   | k + 13, _ => rfl), hP.slice hni⟩)
 | 10, _, hni, hpre, go =>
  have h1 := pr 4 107 _ rfl (hpre 4 (by decide))
  have h2 := pr 9 112 _ rfl (hpre 9 (by decide))
  have m4 := hP.h4 (hpre 4 (by decide)) hni
  have m12 := hP.h12 (hpre 9 (by decide))
  have ha := zix (n := 173) (l := l) (hp := hp) (nx := nx) (ck := ck) (mk := []) (sz := 1) (bytes := 8) (z := [.int .u64 0]) (s := .t 107) (x := .t 112) [[cU x]] h1 h2 (zdj (xs := [[cU x]]) (ys := []) m12 rfl fun x hx => by obtain rfl := List.mem_singleton.1 hx; rfl) (Nat.succ_ne_zero 0) rfl (by decide) m4 (by rw [List.length_map, Nat.mul_one]) (by show s.length + 1 ≤ 1048576; omega)
  have e0 : (s ++ [x]).map cU = s.map cU ++ [[cU x]].flatten := by rw [List.map_append]; rfl
  rw [← e0] at ha
  exact zi8 (i := 10) rfl rfl ha (go _ ⟨_, _, _, _, { q with s13 := ck }, rfl, ad (i := 10) (by decide) hni rfl (fun k hk hkj => by
   match k, hkj with
   | 0, _ | 1, _ | 2, _ | 3, _ | 4, _ | 5, _ | 6, _ | 7, _ | 8, _ | 9, _ | 12, _ => rfl
   | 11, _ => exact absurd (hP.c14 hk) hni
   | 10, h => exact absurd rfl h
   | k + 13, _ => rfl), hP.app (hpre 4 (by decide)) (hpre 9 (by decide)) hni⟩)
 | 12, _, hni, hpre, go =>
  exact zi8 (i := 12) rfl rfl ztv (go _ ⟨_, _, _, _, { q with i15 := nx, s15 := ck }, rfl, ad (i := 12) (by decide) hni rfl (fun k hk hkj => by
   match k, hkj with
   | 0, _ | 1, _ | 2, _ | 3, _ | 4, _ | 5, _ | 6, _ | 7, _ | 8, _ | 9, _ | 10, _ | 11, _ => rfl
   | 12, h => exact absurd rfl h
   | k + 13, _ => rfl), hP.alloc hni⟩)
 | 13, _, hni, hpre, go =>
  have h1 := pr 12 11 _ rfl (hpre 12 (by decide))
  have h2 := pr 11 114 _ rfl (hpre 11 (by decide))
  have hL2 : Lk (zhn m s k) (dv5 m s x q) (13 :: D) l := ⟨hL.1, fun q d v hq hm => by
   rcases List.mem_cons.1 hm with rfl | hm
   ·cases hq
   ·exact hL.2 q d v hq hm⟩
  exact af_op0 (i := 13) rfl (zu3 (id := q.i15) (sp := q.s15) (off := 0) h1 h2 rfl rfl (hP.h15 (hpre 12 (by decide)) hni) rfl rfl) (go _ ⟨_, _, _, _, q, rfl, hL2, hP.sto (hpre 4 (by decide)) (hpre 9 (by decide)) (hpre 10 (by decide)) (hpre 12 (by decide))⟩)
 | j + 14, hj, _, _, _ => exact absurd hj (by omega)
theorem grow5 {w0 : World} {N0 : Nat} {k : List Fr} {Q : Exit → AS → Prop} {y : IC} (m : Nat) (s xs : List (BitVec 64)) (x : BitVec 64) (kk : Int) (hsx : s = x :: xs) (hs : s.length ≤ 100)
  (fin : Zm Try.prog w0 N0 none y (st 173 [(11, .vptr [.int .i64 (m : Nat), .vs (cUs (s ++ [x]))]), (1, .vptr [.int .i64 (m : Nat), .vs (cUs s)]), (4, .int .i64 kk)] [] 0 1) k Q) :
  Zm Try.prog w0 N0 none (.region zru (some reg5p)) (st 173 (zhn m s kk) [] 0 1) (.seq y :: k) Q := by
 refine z_any env0_ok.mix fun rd => zsq (by decide) (Inv5 m s kk x) (fun r D S j hI hj hni hpre go => step5 m s xs x kk hsx hs r D S j hI hj hni hpre go) (fun D S hI hall => Um.ok ?_) 14 [] _ ⟨_, _, _, _, ⟨0, 0, 0, 0, 0, 0, 0⟩, rfl, ⟨fun t v h => ?_, fun _ _ _ _ h => by cases h⟩, ⟨fun h => (by cases h), fun h => (by cases h), fun h => (by cases h), fun h => (by cases h), fun h => (by cases h), fun h => (by cases h), fun h => (by cases h), fun h => (by cases h), fun h => (by cases h), fun h => (by cases h), fun h => (by cases h), fun h => (by cases h), fun h => (by cases h), fun h => (by cases h)⟩⟩ rfl
 ·obtain ⟨l, hp, nx, ck, q, rfl, hL, hP⟩ := hI
  have h5 := hL.2 12 11 _ rfl (hall 12 (by decide))
  have b1 : zbm 1 l = some (.vptr [.int .i64 (m : Nat), .vs (cUs s)]) := hL.1 _ _ (by unfold zhn; simp)
  have b4 : zbm 4 l = some (.int .i64 kk) := hL.1 _ _ (by unfold zhn; simp)
  have hk13 := hP.h13 (hall 10 (by decide))
  have hk16 := hP.h16 (hall 13 (by decide))
  have hne := hP.d1 (hall 4 (by decide)) (hall 12 (by decide))
  refine za4 ?_
  refine zd0 [(some (q.i15, q.s15), [.int .i64 (m : Nat), .vs (cUs (s ++ [x]))])] [(q.i4, q.s13, (s ++ [x]).map cU)] [(11, .mptr 0 0 0), (1, .vptr [.int .i64 (m : Nat), .vs (cUs s)]), (4, .int .i64 kk)] ?_ (.cons hk13 (zn6 _) .nil) (.cons hk16 (.cons (.same rfl) (.cons ?_ .nil)) .nil) (.cons h5 (.mptr rfl) (.cons b1 (.same rfl) (.cons b4 (.same rfl) .nil))) ?_
  ·show (!memN q.i15 [q.i4] && true) = true
   have : memN q.i15 [q.i4] = false := by
    cases hb : memN q.i15 [q.i4] with
    | false => rfl
    | true => exact absurd (List.mem_singleton.1 (zlt.1 hb)) fun e => hne e.symm
   rw [this]
   rfl
  ·have := RenW.fms1 (live := [(some (q.i15, q.s15), [AV.int .i64 (m : Nat), .vs (cUs (s ++ [x]))])]) (fz := [(q.i4, q.s13, (s ++ [x]).map cU)]) (id := q.i4) (sp := q.s13) (len := s.length + 1) (cap := none) (vs := (s ++ [x]).map cU) (by rw [fzl, Nat.beq_refl, Nat.beq_refl]; rfl) (by rw [List.length_map, List.length_append]; rfl)
   rw [List.map_map] at this
   exact this
  refine zd0 [] [(0, 0, [.int .i64 (m : Nat), .vs (cUs (s ++ [x]))])] [(11, .vptr [.int .i64 (m : Nat), .vs (cUs (s ++ [x]))]), (1, .vptr [.int .i64 (m : Nat), .vs (cUs s)]), (4, .int .i64 kk)] rfl (.cons rfl rfl .nil) .nil (.cons rfl (.fptr rfl rfl) (.cons rfl (.same rfl) (.cons rfl (.same rfl) .nil))) fin
 ·unfold zhn at *
  simp only [List.mem_cons, Prod.mk.injEq, List.not_mem_nil, or_false] at h
  rcases h with ⟨rfl, rfl⟩ | ⟨rfl, rfl⟩ <;> rfl
end Go.Proofs.Ytknomkcdpcnmaaa
