/-
  COMPONENTS: the region that makes the two lists of neighbours.
-/
import Derived.Test.YtoagikifehmlpaaQRM
namespace Go.Proofs.Ytoagikifehmlpaa
open Go Go.Am
def zt3 : List Opr := [⟨(some 19), .load (some 2) (.t 1), none⟩, ⟨(some 20), .call (.c (.fn 45 [] [])) [(.t 19)], none⟩, ⟨(some 21), .load (some 2) (.t 1), none⟩, ⟨(some 22), .call (.c (.fn 47 [] [])) [(.t 21)], none⟩, ⟨(some 23), .call (.c (.fn 45 [] [])) [(.t 22)], none⟩, ⟨(some 4), .alloc [.nils], none⟩, ⟨(some 5), .alloc [.nils], none⟩, ⟨none, .store 1 (.t 4) (.t 20), none⟩, ⟨none, .store 1 (.t 5) (.t 23), none⟩]
def reg43p : List (List Nat) := [[], [0], [], [2, 1], [3, 3], [], [], [5, 1, 4, 0, 1, 5, 6], [6, 4, 7, 0, 1, 2, 3, 4, 5, 6, 7]]
structure N43 where
 i5 : Nat
 s5 : Nat
 i6 : Nat
 s6 : Nat
def dv43 (gc : List AV) (A R B : AV) (q : N43) : Nat → Option (Nat × AV)
 | 0 => some (19, .agg gc)
 | 1 => some (20, A)
 | 2 => some (21, .agg gc)
 | 3 => some (22, R)
 | 4 => some (23, B)
 | 5 => some (4, .mptr q.i5 q.s5 0)
 | 6 => some (5, .mptr q.i6 q.s6 0)
 | _ => none
def dd43 : Nat → Nat
 | 5 => 4
 | 6 => 5
 | j => 19 + j
theorem dv43_dst {gc : List AV} {A R B : AV} {q : N43} : ∀ {j e : Nat} {v : AV}, dv43 gc A R B q j = some (e, v) → e = dd43 j ∧ j < 7
 | 0, _, _, h | 1, _, _, h | 2, _, _, h | 3, _, _, h | 4, _, _, h | 5, _, _, h | 6, _, _, h => by
  injection h with h
  injection h with h1 h2
  exact ⟨h1.symm, by decide⟩
 | j + 7, _, _, h => by cases h
theorem dd43_ne {i j : Nat} (hi : i < 7) (hj : j < 7) (h : j ≠ i) : dd43 i ≠ dd43 j := by
 have : ∀ a < 7, ∀ b < 7, b ≠ a → dd43 a ≠ dd43 b := by decide
 exact this i hi j hj h
structure M43 (A B : AV) (D : List Nat) (hp : List (Nat × Nat × AObj)) (nx : Nat) (q : N43) : Prop where
 h5 : 5 ∈ D → Am.look q.i5 hp = some (q.s5, .cells [if D.contains 7 then A else .nils])
 l5 : 5 ∈ D → q.i5 < nx
 h6 : 6 ∈ D → Am.look q.i6 hp = some (q.s6, .cells [if D.contains 8 then B else .nils])
 l6 : 6 ∈ D → q.i6 < nx
 ne : 5 ∈ D → 6 ∈ D → q.i5 ≠ q.i6
 c7 : 7 ∈ D → 5 ∈ D
 c8 : 8 ∈ D → 6 ∈ D
def zfh (gc : List AV) : List (Nat × AV) := [(1, .vptr gc)]
def Inv43 (gc : List AV) (A R B : AV) (D : List Nat) (S : AS) : Prop :=
 ∃ l hp nx ck q, S = st 80 l hp nx ck ∧ Lk (zfh gc) (dv43 gc A R B q) D l ∧ M43 A B D hp nx q
theorem zqt {gc : List AV} {j : Nat} (hj : j < 7) : ∀ t v, (t, v) ∈ zfh gc → dd43 j ≠ t := fun t v h => by
 unfold zfh at h
 simp only [List.mem_cons, Prod.mk.injEq, List.not_mem_nil, or_false] at h
 have : ∀ k < 7, 4 ≤ dd43 k := by decide
 have := this j hj
 omega
theorem M43.keep {A B : AV} {D : List Nat} {hp : List (Nat × Nat × AObj)} {nx j : Nat} {q : N43} (h : M43 A B D hp nx q) (n5 : j ≠ 5) (n6 : j ≠ 6) (n7 : j ≠ 7) (n8 : j ≠ 8) : M43 A B (j :: D) hp nx q := by
 have e : ∀ k, j ≠ k → k ∈ j :: D → k ∈ D := fun k hk hm => (List.mem_cons.1 hm).resolve_left fun e => hk e.symm
 have c : ∀ k, j ≠ k → (j :: D).contains k = D.contains k := fun k hk => by rw [List.contains_cons, show (k == j) = false from beq_eq_false_iff_ne.2 fun e => hk e.symm, Bool.false_or]
 exact ⟨fun a => by rw [c 7 n7]; exact h.h5 (e 5 n5 a), fun a => h.l5 (e 5 n5 a), fun a => by rw [c 8 n8]; exact h.h6 (e 6 n6 a), fun a => h.l6 (e 6 n6 a), fun a b => h.ne (e 5 n5 a) (e 6 n6 b), fun a => List.mem_cons_of_mem _ (h.c7 (e 7 n7 a)), fun a => List.mem_cons_of_mem _ (h.c8 (e 8 n8 a))⟩
set_option maxHeartbeats 1000000 in
theorem step43 {w0 : World} {N0 : Nat} {rd : Option (Nat × Nat)} {K : AS → Prop} (gc : List AV) (A R B : AV) (hl2 : gc.length = 2) (hA : A.cells? = some [A]) (hB : B.cells? = some [B]) (cA : A.isCell = true) (cB : B.isCell = true) (mA : hasM (.agg gc) = false) (mR : hasM R = false)
  (hvA : ∀ S : AS, S.view VD (.agg gc) = .agg gc) (hvR : ∀ S : AS, S.view VD R = R) (p1 : PF Try.prog 45 [.agg gc] A) (p2 : PF Try.prog 47 [.agg gc] R) (p3 : PF Try.prog 45 [R] B)
  (r : Nat) (D : List Nat) (S : AS) (j : Nat) (hI : Inv43 gc A R B D S) (hj : j < 9) (hni : j ∉ D) (hpre : ∀ p ∈ reg43p.getD j [], p ∈ D)
  (go : ∀ S', Inv43 gc A R B (j :: D) S' → AnyF Try.prog w0 N0 rd zt3 reg43p r (j :: D) S' K) : StF Try.prog w0 N0 rd zt3 reg43p r D S K j := by
 obtain ⟨l, hp, nx, ck, q, rfl, hL, hP⟩ := hI
 have b1 : zc4 1 l = some (.vptr gc) := hL.1 _ _ (by unfold zfh; simp)
 have pr : ∀ k d v, dv43 gc A R B q k = some (d, v) → k ∈ D → zc4 d l = some v := hL.2
 have ad : ∀ {i : Nat} {v : AV} {q' : N43}, i < 7 → i ∉ D → dv43 gc A R B q' i = some (dd43 i, v) → (∀ k, k ∈ D → k ≠ i → dv43 gc A R B q' k = dv43 gc A R B q k) → Lk (zfh gc) (dv43 gc A R B q') (i :: D) ((dd43 i, v) :: l) := fun hi hn hv hs => hL.add hv (zqt hi) hs (fun k e v hk he => by
  obtain ⟨e1, e2⟩ := dv43_dst he
  rw [e1]
  exact dd43_ne hi e2 hk) hn
 have mk0 : zck [] hp := fun _ h => absurd h List.not_mem_nil
 have gl : iop (st 80 l hp nx ck) (.load (some 2) (.t 1)) = some (.agg gc, st 80 l hp nx ck) := zml b1 rfl (by rw [hl2]; rfl) (by rw [← hl2, List.take_length])
 match j, hj, hni, hpre, go with
 | 0, _, hni, hpre, go => exact zp5 (i := 0) rfl rfl gl (go _ ⟨_, _, _, _, q, rfl, ad (i := 0) (by decide) hni rfl (fun _ _ _ => rfl), hP.keep (by decide) (by decide) (by decide) (by decide)⟩)
 | 2, _, hni, hpre, go => exact zp5 (i := 2) rfl rfl gl (go _ ⟨_, _, _, _, q, rfl, ad (i := 2) (by decide) hni rfl (fun _ _ _ => rfl), hP.keep (by decide) (by decide) (by decide) (by decide)⟩)
 | 1, _, hni, hpre, go =>
  have h0 := pr 0 19 _ rfl (hpre 0 (by decide))
  exact zm5 (i := 1) (vs := [.agg gc]) rfl rfl (by simp only [zf3, zb3, h0]) (by rw [List.map_cons, hvA]; rfl) p1 (fun h => absurd h (by show ¬ (hasM (.agg gc) || false) = true; rw [mA]; simp)) mk0 (go _ ⟨_, _, _, _, q, rfl, ad (i := 1) (by decide) hni rfl (fun _ _ _ => rfl), hP.keep (by decide) (by decide) (by decide) (by decide)⟩)
 | 3, _, hni, hpre, go =>
  have h0 := pr 2 21 _ rfl (hpre 2 (by decide))
  exact zm5 (i := 3) (vs := [.agg gc]) rfl rfl (by simp only [zf3, zb3, h0]) (by rw [List.map_cons, hvA]; rfl) p2 (fun h => absurd h (by show ¬ (hasM (.agg gc) || false) = true; rw [mA]; simp)) mk0 (go _ ⟨_, _, _, _, q, rfl, ad (i := 3) (by decide) hni rfl (fun _ _ _ => rfl), hP.keep (by decide) (by decide) (by decide) (by decide)⟩)
 | 4, _, hni, hpre, go =>
  have h0 := pr 3 22 _ rfl (hpre 3 (by decide))
  exact zm5 (i := 4) (vs := [R]) rfl rfl (by simp only [zf3, zb3, h0]) (by rw [List.map_cons, hvR]; rfl) p3 (fun h => absurd h (by show ¬ (hasM R || false) = true; rw [mR]; simp)) mk0 (go _ ⟨_, _, _, _, q, rfl, ad (i := 4) (by decide) hni rfl (fun _ _ _ => rfl), hP.keep (by decide) (by decide) (by decide) (by decide)⟩)
 | 5, _, hni, hpre, go =>
  have n7 : 7 ∉ D := fun h => hni (hP.c7 h)
  refine zp5 (i := 5) rfl rfl zmj (go _ ⟨_, _, _, _, { q with i5 := nx, s5 := ck }, rfl, ad (i := 5) (by decide) hni rfl (fun k hk hkj => by
   match k, hkj with
   | 0, _ | 1, _ | 2, _ | 3, _ | 4, _ | 6, _ => rfl
   | 5, h => exact absurd rfl h
   | k + 7, _ => rfl), ?_⟩)
  have e : ∀ k, 5 ≠ k → k ∈ 5 :: D → k ∈ D := fun k hk hm => (List.mem_cons.1 hm).resolve_left fun e => hk e.symm
  have c : ∀ k, 5 ≠ k → (5 :: D).contains k = D.contains k := fun k hk => by rw [List.contains_cons, show (k == 5) = false from beq_eq_false_iff_ne.2 fun e => hk e.symm, Bool.false_or]
  have c7 : D.contains 7 = false := by simpa using n7
  refine ⟨fun _ => by rw [c 7 (by decide), c7]; exact zb5, fun _ => Nat.lt_succ_self _, fun a => ?_, fun a => ?_, fun _ b => ?_, fun a => absurd (e 7 (by decide) a) n7, fun a => List.mem_cons_of_mem _ (hP.c8 (e 8 (by decide) a))⟩
  ·rw [c 8 (by decide), za8, if_neg (by have := hP.l6 (e 6 (by decide) a); show ¬ nx = q.i6; omega)]
   exact hP.h6 (e 6 (by decide) a)
  ·have := hP.l6 (e 6 (by decide) a); show q.i6 < nx + 1; omega
  ·have := hP.l6 (e 6 (by decide) b); show nx ≠ q.i6; omega
 | 6, _, hni, hpre, go =>
  have n8 : 8 ∉ D := fun h => hni (hP.c8 h)
  refine zp5 (i := 6) rfl rfl zmj (go _ ⟨_, _, _, _, { q with i6 := nx, s6 := ck }, rfl, ad (i := 6) (by decide) hni rfl (fun k hk hkj => by
   match k, hkj with
   | 0, _ | 1, _ | 2, _ | 3, _ | 4, _ | 5, _ => rfl
   | 6, h => exact absurd rfl h
   | k + 7, _ => rfl), ?_⟩)
  have e : ∀ k, 6 ≠ k → k ∈ 6 :: D → k ∈ D := fun k hk hm => (List.mem_cons.1 hm).resolve_left fun e => hk e.symm
  have c : ∀ k, 6 ≠ k → (6 :: D).contains k = D.contains k := fun k hk => by rw [List.contains_cons, show (k == 6) = false from beq_eq_false_iff_ne.2 fun e => hk e.symm, Bool.false_or]
  have c8 : D.contains 8 = false := by simpa using n8
  refine ⟨fun a => ?_, fun a => ?_, fun _ => by rw [c 8 (by decide), c8]; exact zb5, fun _ => Nat.lt_succ_self _, fun a _ => ?_, fun a => List.mem_cons_of_mem _ (hP.c7 (e 7 (by decide) a)), fun a => absurd (e 8 (by decide) a) n8⟩
  ·rw [c 7 (by decide), za8, if_neg (by have := hP.l5 (e 5 (by decide) a); show ¬ nx = q.i5; omega)]
   exact hP.h5 (e 5 (by decide) a)
  ·have := hP.l5 (e 5 (by decide) a); show q.i5 < nx + 1; omega
  ·have := hP.l5 (e 5 (by decide) a); show q.i5 ≠ nx; omega
 | 7, _, hni, hpre, go =>
  have h4 := pr 5 4 _ rfl (hpre 5 (by decide))
  have h20 := pr 1 20 _ rfl (hpre 1 (by decide))
  have m5 : 5 ∈ D := hpre 5 (by decide)
  have m6 : 6 ∈ D := hpre 6 (by decide)
  have hk := hP.h5 m5
  refine zkt (i := 7) rfl (zg3 (id := q.i5) (sp := q.s5) (off := 0) h4 h20 hA rfl hk rfl (by show (A.isCell && true) = true; rw [cA]; rfl)) (go _ ⟨_, _, _, _, q, rfl, ⟨hL.1, fun k d v hk hm => ?_⟩, ?_⟩)
  ·rcases List.mem_cons.1 hm with rfl | hm
   ·cases hk
   ·exact hL.2 k d v hk hm
  ·have c : (7 :: D).contains 8 = D.contains 8 := by rw [List.contains_cons, show ((8 : Nat) == 7) = false from rfl, Bool.false_or]
   refine ⟨fun _ => ?_, fun _ => hP.l5 m5, fun a => ?_, fun _ => hP.l6 m6, fun _ _ => hP.ne m5 m6, fun _ => List.mem_cons_of_mem _ m5, fun _ => List.mem_cons_of_mem _ m6⟩
   ·rw [za7, if_pos rfl, List.contains_cons, show ((7 : Nat) == 7) = true from rfl, Bool.true_or, if_pos rfl]
    rfl
   ·rw [c, za7, if_neg (hP.ne m5 m6)]
    exact hP.h6 m6
 | 8, _, hni, hpre, go =>
  have h5 := pr 6 5 _ rfl (hpre 6 (by decide))
  have h23 := pr 4 23 _ rfl (hpre 4 (by decide))
  have m5 : 5 ∈ D := hpre 5 (by decide)
  have m6 : 6 ∈ D := hpre 6 (by decide)
  have hk := hP.h6 m6
  refine zkt (i := 8) rfl (zg3 (id := q.i6) (sp := q.s6) (off := 0) h5 h23 hB rfl hk rfl (by show (B.isCell && true) = true; rw [cB]; rfl)) (go _ ⟨_, _, _, _, q, rfl, ⟨hL.1, fun k d v hk hm => ?_⟩, ?_⟩)
  ·rcases List.mem_cons.1 hm with rfl | hm
   ·cases hk
   ·exact hL.2 k d v hk hm
  ·have c : (8 :: D).contains 7 = D.contains 7 := by rw [List.contains_cons, show ((7 : Nat) == 8) = false from rfl, Bool.false_or]
   refine ⟨fun a => ?_, fun _ => hP.l5 m5, fun _ => ?_, fun _ => hP.l6 m6, fun _ _ => hP.ne m5 m6, fun _ => List.mem_cons_of_mem _ m5, fun _ => List.mem_cons_of_mem _ m6⟩
   ·rw [c, za7, if_neg fun e => hP.ne m5 m6 e.symm]
    exact hP.h5 m5
   ·rw [za7, if_pos rfl, List.contains_cons, show ((8 : Nat) == 8) = true from rfl, Bool.true_or, if_pos rfl]
    rfl
 | j + 9, hj, _, _, _ => exact absurd hj (by omega)
theorem nets43 {w0 : World} {N0 : Nat} {k : List Fr} {Q : Exit → AS → Prop} {y : IC} (gc : List AV) (A R B : AV) (hl2 : gc.length = 2) (hA : A.cells? = some [A]) (hB : B.cells? = some [B]) (cA : A.isCell = true) (cB : B.isCell = true) (mG : hasM (.agg gc) = false) (mR : hasM R = false) (mA : hasM A = false) (mB : hasM B = false)
  (hvA : ∀ S : AS, S.view VD (.agg gc) = .agg gc) (hvR : ∀ S : AS, S.view VD R = R) (p1 : PF Try.prog 45 [.agg gc] A) (p2 : PF Try.prog 47 [.agg gc] R) (p3 : PF Try.prog 45 [R] B)
  (fin : Zm Try.prog w0 N0 none y (st 80 [(4, .mptr 0 0 0), (5, .mptr 1 0 0), (1, .vptr gc)] [(0, 0, .cells [A]), (1, 0, .cells [B])] 2 1) k Q) :
  Zm Try.prog w0 N0 none (.region zt3 (some reg43p)) (st 80 (zfh gc) [] 0 1) (.seq y :: k) Q := by
 refine z_any env0_ok.mix fun rd => zqm (by decide) (Inv43 gc A R B) (fun r D S j hI hj hni hpre go => step43 gc A R B hl2 hA hB cA cB mG mR hvA hvR p1 p2 p3 r D S j hI hj hni hpre go) (fun D S hI hall => Um.ok ?_) 9 [] _ ⟨_, _, _, _, ⟨0, 0, 0, 0⟩, rfl, ⟨fun t v h => ?_, fun _ _ _ _ h => (by cases h)⟩, ⟨fun h => (by cases h), fun h => (by cases h), fun h => (by cases h), fun h => (by cases h), fun h => (by cases h), fun h => (by cases h), fun h => (by cases h)⟩⟩ rfl
 ·obtain ⟨l, hp, nx, ck, q, rfl, hL, hP⟩ := hI
  have h4 := hL.2 5 4 _ rfl (hall 5 (by decide))
  have h5 := hL.2 6 5 _ rfl (hall 6 (by decide))
  have b1 : zc4 1 l = some (.vptr gc) := hL.1 _ _ (by unfold zfh; simp)
  have k5 := hP.h5 (hall 5 (by decide))
  have k6 := hP.h6 (hall 6 (by decide))
  rw [List.contains_iff_mem.2 (hall 7 (by decide)), if_pos rfl] at k5
  rw [List.contains_iff_mem.2 (hall 8 (by decide)), if_pos rfl] at k6
  have hne := hP.ne (hall 5 (by decide)) (hall 6 (by decide))
  refine za3 ?_
  refine zby [(some (q.i5, q.s5), [A]), (some (q.i6, q.s6), [B])] [] [(4, .mptr 0 0 0), (5, .mptr 1 0 0), (1, .vptr gc)] ?_ .nil (.cons k5 (.cons (.same mA) .nil) (.cons k6 (.cons (.same mB) .nil) .nil)) (.cons h4 (.mptr rfl) (.cons h5 (.mptr rfl) (.cons b1 (.same rfl) .nil))) fin
  show (!zq6 q.i5 [] && (!zq6 q.i6 [q.i5] && true)) = true
  have : zq6 q.i6 [q.i5] = false := by
   cases hb : zq6 q.i6 [q.i5] with
   | false => rfl
   | true => exact absurd (List.mem_singleton.1 (zgv.1 hb)) fun e => hne e.symm
  rw [this]
  rfl
 ·unfold zfh at *
  obtain ⟨rfl, rfl⟩ : t = 1 ∧ v = .vptr gc := by simpa using h
  rfl
end Go.Proofs.Ytoagikifehmlpaa
