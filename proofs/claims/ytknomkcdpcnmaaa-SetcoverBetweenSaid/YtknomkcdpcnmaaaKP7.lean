/-
  WHAT BOUNDS COMPARES: the plain law of Apart and Bound.
-/
import Derived.Test.YtknomkcdpcnmaaaKRH
import Derived.Test.YtknomkcdpcnmaaaKVK
import Derived.Test.YtknomkcdpcnmaaaKP4
namespace Go.Proofs.Ytknomkcdpcnmaaa
open Go Go.Am
def apS (g : Nat → BitVec 64) : Nat → Nat → BitVec 64 → List (List Int)
 | 0, _, _ => []
 | m + 1, i, h => (if h.getLsbD i = true then [] else ([] :: apS g m (i + 1) (h ||| g i)).map fun c => ((i : Nat) : Int) :: c) ++ apS g m (i + 1) h
theorem zll (g : Nat → BitVec 64) : ∀ (m i : Nat) (h : BitVec 64), ∀ c ∈ apS g m i h, c.length ≤ m
 | 0, _, _, c, hc => by cases hc
 | m + 1, i, h, c, hc => by
  rw [apS, List.mem_append] at hc
  rcases hc with hc | hc
  ·split at hc
   ·cases hc
   ·obtain ⟨d, hd, rfl⟩ := List.mem_map.1 hc
    rcases List.mem_cons.1 hd with rfl | hd
    ·simp
    ·have := zll g m _ _ d hd
     simp only [List.length_cons]
     omega
  ·have := zll g m _ _ c hc
   omega
theorem zs2 {b : List Int} : ∀ {L : List (List Int)}, (∀ l ∈ L, l.length ≤ b.length) → L.foldl upd b = b
 | [], _ => rfl
 | l :: L, h => by
  rw [List.foldl_cons, show upd b l = b from if_neg (by have := h l (List.mem_cons_self ..); omega)]
  exact zs2 fun x hx => h x (List.mem_cons_of_mem _ hx)
theorem bw_eq (g : Nat → BitVec 64) : ∀ (m : Nat) (now : List Int) (i : Nat) (h : BitVec 64) (b : List Int), bw g m now i h b = ((apS g m i h).map fun c => now ++ c).foldl upd b
 | 0, _, _, _, _ => rfl
 | m + 1, now, i, h, b => by
  rw [bw]
  split
  ·rw [bw_eq g m, apS, List.map_append, List.foldl_append]
   congr 1
   split
   ·rfl
   ·rw [bw_eq g m, List.map_cons, List.map_cons, List.foldl_cons, List.map_map]
    congr 1
    refine List.map_congr_left fun c _ => ?_
    show _ = now ++ (((i : Nat) : Int) :: c)
    rw [List.append_assoc]
    rfl
  ·rw [zs2]
   intro l hl
   obtain ⟨c, hc, rfl⟩ := List.mem_map.1 hl
   have := zll g _ _ _ c hc
   rw [List.length_append]
   omega
def apq (g : Nat → BitVec 64) : BitVec 64 → List Int → Bool
 | _, [] => true
 | h, k :: c => !h.getLsbD k.toNat && apq g (h ||| g k.toNat) c
theorem zfx (g : Nat → BitVec 64) (n : Nat) : ∀ (m k i : Nat) (h : BitVec 64), i + m = n → (apS g m i h).filter (fun c => c.length == k + 1) = (asc n (k + 1) i).filter (apq g h)
 | 0, k, i, h, e => by rw [zln (by omega) (by omega)]; rfl
 | m + 1, k, i, h, e => by
  rw [apS, List.filter_append, zfx g n m k (i + 1) h (by omega), zlo, zlo, zna (show i < n by omega), List.filter_append, List.filter_map]
  congr 1
  have he : (apq g h ∘ fun c => ((i : Nat) : Int) :: c) = fun c => !h.getLsbD i && apq g (h ||| g i) c := by
   funext c
   show apq g h (((i : Nat) : Int) :: c) = _
   rw [apq, Int.toNat_natCast]
  rw [he]
  by_cases hb : h.getLsbD i = true
  ·rw [if_pos hb, hb]
   have : (asc n k (i + 1)).filter (fun c => !true && apq g (h ||| g i) c) = [] := List.filter_eq_nil_iff.2 fun c _ => by simp
   rw [this]
   rfl
  ·rw [if_neg hb, List.filter_map]
   have hb : h.getLsbD i = false := by simpa using hb
   rw [hb]
   simp only [Bool.not_false, Bool.true_and]
   congr 1
   have he2 : ((fun c : List Int => c.length == k + 1) ∘ fun c => ((i : Nat) : Int) :: c) = fun c => c.length == k := by
    funext c
    show ((c.length + 1 == k + 1) : Bool) = _
    by_cases hc : c.length = k <;> simp [hc]
   rw [he2]
   cases k with
   | zero =>
    rw [List.filter_cons, if_pos (by rfl), asc, List.filter_eq_nil_iff.2]
    ·rfl
    ·intro c hc e2
     have : c = [] := List.length_eq_zero_iff.1 (by simpa using e2)
     subst this
     clear he he2 e2
     generalize h ||| g i = h2 at hc
     generalize i + 1 = j at hc
     clear e zfx hb
     induction m generalizing j h2 with
     | zero => cases hc
     | succ m ih =>
      rw [apS, List.mem_append] at hc
      rcases hc with hc | hc
      ·split at hc
       ·cases hc
       ·simp at hc
      ·exact ih _ _ hc
   | succ k =>
    rw [List.filter_cons, if_neg (by simp)]
    exact zfx g n m k (i + 1) _ (by omega)
theorem zn0 : ∀ (E F : List (List Int)) (b : List Int), F ≠ [] → (∀ l ∈ F, l.length ≤ b.length) → (F.filter fun l => l.length == b.length).head? = some b →
  (∀ l ∈ F ++ E, l.length ≤ (E.foldl upd b).length) ∧ ((F ++ E).filter fun l => l.length == (E.foldl upd b).length).head? = some (E.foldl upd b)
 | [], F, b, _, h1, h2 => by rw [List.append_nil]; exact ⟨h1, h2⟩
 | l :: E, F, b, hF, h1, h2 => by
  have e : F ++ l :: E = (F ++ [l]) ++ E := by simp
  rw [e, List.foldl_cons]
  unfold upd
  by_cases hl : l.length > b.length
  ·rw [if_pos hl]
   refine zn0 E (F ++ [l]) l (by simp) (fun x hx => ?_) ?_
   ·rw [List.mem_append, List.mem_singleton] at hx
    rcases hx with hx | rfl
    ·have := h1 x hx; omega
    ·exact Nat.le_refl _
   ·rw [List.filter_append, show (F.filter fun x => x.length == l.length) = [] from List.filter_eq_nil_iff.2 (fun x hx e => by have := h1 x hx; have : x.length = l.length := (by simpa using e); omega)]
    simp
  ·rw [if_neg hl]
   refine zn0 E (F ++ [l]) b (by simp) (fun x hx => ?_) ?_
   ·rw [List.mem_append, List.mem_singleton] at hx
    rcases hx with hx | rfl
    ·exact h1 x hx
    ·omega
   ·rw [List.filter_append, List.head?_append, h2]
    rfl
theorem zwy : ∀ (m x : Nat), x < 2 ^ m → (szN m x ≤ 1 ↔ ∀ i j, i < j → ¬ (x.testBit i = true ∧ x.testBit j = true))
 | 0, x, h => by
  have : x = 0 := by simpa using h
  subst this
  simp [szN]
 | m + 1, x, h => by
  have ih := zwy m (x / 2) (by rw [Nat.pow_succ] at h; omega)
  rw [szN]
  constructor
  ·intro h1 i j hij ⟨hi, hj⟩
   obtain ⟨j, rfl⟩ : ∃ q, j = q + 1 := ⟨j - 1, by omega⟩
   rw [Nat.testBit_succ] at hj
   cases i with
   | zero =>
    rw [Nat.testBit_zero] at hi
    have hx : x % 2 = 1 := by simpa using hi
    have : x / 2 = 0 := zmw m _ (by rw [Nat.pow_succ] at h; omega) (by omega)
    rw [this] at hj
    simp at hj
   | succ i =>
    rw [Nat.testBit_succ] at hi
    exact ih.1 (by omega) i j (by omega) ⟨hi, hj⟩
  ·intro h1
   have h2 : szN m (x / 2) ≤ 1 := ih.2 fun i j hij ⟨hi, hj⟩ => h1 (i + 1) (j + 1) (by omega) ⟨by rw [Nat.testBit_succ]; exact hi, by rw [Nat.testBit_succ]; exact hj⟩
   by_cases hx : x % 2 = 1
   ·have : x / 2 = 0 := by
     apply Nat.eq_of_testBit_eq
     intro j
     rw [Nat.zero_testBit]
     cases hj : (x / 2).testBit j with
     | false => rfl
     | true => exact absurd ⟨by rw [Nat.testBit_zero]; simpa using hx, by rw [Nat.testBit_succ]; exact hj⟩ (h1 0 (j + 1) (by omega))
    rw [this, zq1]
    omega
   ·omega
theorem znz (j : Nat) (hj : j < 64) : ∀ (c : List Int) (a : BitVec 64), (c.foldl (fun a k => a ||| (1#64 <<< k.toNat)) a).getLsbD j = (a.getLsbD j || c.any fun k => k.toNat == j)
 | [], a => by simp
 | k :: c, a => by
  rw [List.foldl_cons, znz j hj c, BitVec.getLsbD_or, List.any_cons, Bool.or_assoc]
  congr 2
  rw [BitVec.getLsbD_shiftLeft, BitVec.getLsbD_one]
  by_cases h : k.toNat = j
  ·subst h; simp [hj]
  ·have : (k.toNat == j) = false := by simpa using h
   rw [this]
   by_cases h2 : j < k.toNat
   ·simp [h2]
   ·have : ¬ j - k.toNat = 0 := by omega
    simp [this]
theorem zmg {c : List Int} {j : Nat} (hj : j < 64) : (zh4 c).getLsbD j = c.any fun k => k.toNat == j := by
 unfold zh4
 rw [znz j hj]
 simp
theorem zo0 (i j : Nat) : ∀ (s : List (BitVec 64)) (a : BitVec 64), (s.foldl (fun a x => if x.getLsbD i = true then a ||| x else a) a).getLsbD j = (a.getLsbD j || s.any fun x => x.getLsbD i && x.getLsbD j)
 | [], a => by simp
 | x :: s, a => by
  rw [List.foldl_cons, zo0 i j s, List.any_cons]
  split
  ·rename_i h
   rw [BitVec.getLsbD_or, h, Bool.or_assoc]
   rfl
  ·rename_i h
   have h : x.getLsbD i = false := by simpa using h
   rw [h]
   simp
theorem zik (s : List (BitVec 64)) (i j : Nat) : (zc3 s i).getLsbD j = s.any fun x => x.getLsbD i && x.getLsbD j := by
 unfold zc3
 rw [zo0]
 simp
def zk0 (s : List (BitVec 64)) : List Int → Bool
 | [] => true
 | k :: c => c.all (fun z => !(zc3 s k.toNat).getLsbD z.toNat) && zk0 s c
theorem zqh (s : List (BitVec 64)) : ∀ (c : List Int) (h : BitVec 64), apq (zc3 s) h c = (c.all (fun z => !h.getLsbD z.toNat) && zk0 s c)
 | [], h => rfl
 | k :: c, h => by
  rw [apq, zqh s c, List.all_cons, zk0]
  have : (c.all fun z => !(h ||| zc3 s k.toNat).getLsbD z.toNat) = (c.all (fun z => !h.getLsbD z.toNat) && c.all fun z => !(zc3 s k.toNat).getLsbD z.toNat) := by
   rw [Bool.eq_iff_iff]
   simp only [List.all_eq_true, Bool.and_eq_true, BitVec.getLsbD_or, Bool.not_or, Bool.not_eq_true']
   exact ⟨fun h => ⟨fun x hx => (h x hx).1, fun x hx => (h x hx).2⟩, fun h x hx => ⟨h.1 x hx, h.2 x hx⟩⟩
  rw [this]
  cases h.getLsbD k.toNat <;> simp [Bool.and_assoc]
def Up : List Int → Prop
 | [] => True
 | k :: c => 0 ≤ k ∧ k < 64 ∧ (∀ z ∈ c, k < z) ∧ Up c
theorem zrl (s : List (BitVec 64)) : ∀ (c : List Int), Up c → (zk0 s c = true ↔ ∀ x ∈ s, ∀ a ∈ c, ∀ b ∈ c, a < b → ¬ (x.getLsbD a.toNat = true ∧ x.getLsbD b.toNat = true))
 | [], _ => by simp [zk0]
 | k :: c, hu => by
  obtain ⟨h0, h1, h2, h3⟩ := hu
  have ih := zrl s c h3
  rw [zk0, Bool.and_eq_true, ih, List.all_eq_true]
  constructor
  ·rintro ⟨p, q⟩ x hx a ha b hb hab ⟨xa, xb⟩
   rcases List.mem_cons.1 ha with rfl | ha1
   ·rcases List.mem_cons.1 hb with rfl | hb1
    ·omega
    ·have := p b hb1
     rw [zik] at this
     simp only [Bool.not_eq_true', List.any_eq_false, Bool.and_eq_true, not_and] at this
     exact this x hx xa xb
   ·rcases List.mem_cons.1 hb with rfl | hb1
    ·have := h2 a ha1; omega
    ·exact q x hx a ha1 b hb1 hab ⟨xa, xb⟩
  ·intro h
   refine ⟨fun z hz => ?_, fun x hx a ha b hb => h x hx a (List.mem_cons_of_mem _ ha) b (List.mem_cons_of_mem _ hb)⟩
   rw [zik]
   simp only [Bool.not_eq_true', List.any_eq_false, Bool.and_eq_true]
   intro x hx hh
   exact h x hx k (List.mem_cons_self ..) z (List.mem_cons_of_mem _ hz) (h2 z hz) hh
theorem up_mem : ∀ {c : List Int}, Up c → ∀ z ∈ c, 0 ≤ z ∧ z < 64
 | [], _, z, hz => by cases hz
 | k :: c, ⟨h0, h1, _, h3⟩, z, hz => by
  rcases List.mem_cons.1 hz with rfl | hz
  ·exact ⟨h0, h1⟩
  ·exact up_mem h3 z hz
theorem znv (s : List (BitVec 64)) (c : List Int) (hu : Up c) : zfn s c = zk0 s c := by
 rw [Bool.eq_iff_iff, zrl s c hu]
 unfold zfn
 rw [List.all_eq_true]
 have hm := up_mem hu
 refine forall_congr' fun x => forall_congr' fun hx => ?_
 rw [decide_eq_true_iff]
 unfold szB
 rw [zwy 64 _ (BitVec.isLt _)]
 have tb : ∀ i, ((x &&& zh4 c).toNat.testBit i = true ↔ i < 64 ∧ x.getLsbD i = true ∧ ∃ a ∈ c, a.toNat = i) := by
  intro i
  rw [BitVec.testBit_toNat, BitVec.getLsbD_and]
  by_cases hi : i < 64
  ·rw [zmg hi, Bool.and_eq_true, List.any_eq_true]
   simp only [beq_iff_eq]
   exact ⟨fun ⟨a, b⟩ => ⟨hi, a, b⟩, fun ⟨_, a, b⟩ => ⟨a, b⟩⟩
  ·have : x.getLsbD i = false := BitVec.getLsbD_of_ge x i (by omega)
   rw [this]
   simp
 constructor
 ·intro h a ha b hb hab ⟨xa, xb⟩
  have := hm a ha
  have := hm b hb
  exact h a.toNat b.toNat (by omega) ⟨(tb _).2 ⟨by omega, xa, a, ha, rfl⟩, (tb _).2 ⟨by omega, xb, b, hb, rfl⟩⟩
 ·intro h i j hij ⟨hi, hj⟩
  obtain ⟨_, xi, a, ha, rfl⟩ := (tb i).1 hi
  obtain ⟨_, xj, b, hb, rfl⟩ := (tb j).1 hj
  have := hm a ha
  have := hm b hb
  exact h a ha b hb (by omega) ⟨xi, xj⟩
theorem zs1 {n : Nat} (hn : n ≤ 64) : ∀ {k f : Nat} {c : List Int}, c ∈ asc n k f → Up c
 | 0, f, c, h => by
  rw [asc] at h
  obtain rfl := List.mem_singleton.1 h
  trivial
 | k + 1, f, c, h => by
  rw [asc] at h
  obtain ⟨i, hi, h⟩ := List.mem_flatMap.1 h
  obtain ⟨d, hd, rfl⟩ := List.mem_map.1 h
  rw [List.mem_range'_1] at hi
  have hm : d.length = k ∧ ∀ z ∈ d, ((i + 1 : Nat) : Int) ≤ z ∧ z < n := zhh hd
  exact ⟨by omega, by omega, fun z hz => by have := (hm.2 z hz).1; omega, zs1 hn hd⟩
theorem zrj (s : List (BitVec 64)) (i j : Nat) : (zc3 s i).getLsbD j = (zc3 s j).getLsbD i := by
 rw [zik, zik]
 congr 1
 funext x
 exact Bool.and_comm ..
theorem zw8 (s : List (BitVec 64)) : ∀ c : List Int, zk0 s c = true ↔ c.Pairwise fun k z => (zc3 s k.toNat).getLsbD z.toNat = false
 | [] => by simp [zk0]
 | k :: c => by
  rw [zk0, Bool.and_eq_true, zw8 s c, List.pairwise_cons, List.all_eq_true]
  simp
theorem apT_pair (s : List (BitVec 64)) (l : List Int) : apT s l l.length = zk0 s l := by
 rw [Bool.eq_iff_iff, zw8, List.pairwise_iff_getElem]
 unfold apT apR
 rw [List.all_eq_true]
 constructor
 ·intro h i j hi hj hij
  have h1 := h j (List.mem_range.2 hj)
  rw [List.all_eq_true] at h1
  have h2 := h1 l[i] (List.mem_take_iff_getElem.2 ⟨i, by omega, rfl⟩)
  rw [show l.getD j 0 = l[j] by rw [List.getD_eq_getElem?_getD, List.getElem?_eq_getElem hj]; rfl, zrj] at h2
  simpa using h2
 ·intro h j hj
  have hj := List.mem_range.1 hj
  rw [List.all_eq_true]
  intro b hb
  obtain ⟨i, hi, rfl⟩ := List.mem_take_iff_getElem.1 hb
  rw [show l.getD j 0 = l[j] by rw [List.getD_eq_getElem?_getD, List.getElem?_eq_getElem hj]; rfl, zrj, h i j (by omega) hj (by omega)]
  rfl
theorem boR_at {N : Nat} {s : List (BitVec 64)} {k : Nat} {b : List Int} (h : (asc N (k + 1) 0).find? (zfn s) = some b) : ∀ m : Nat, k + 1 ≤ m → (∀ j, k + 1 < j → j ≤ m → (asc N j 0).find? (zfn s) = none) → boR N s m = some b
 | 0, h1, _ => absurd h1 (by omega)
 | m + 1, h1, h2 => by
  rw [boR]
  by_cases hm : m = k
  ·subst hm
   rw [h]
   rfl
  ·rw [h2 (m + 1) (by omega) (Nat.le_refl _), Option.none_or]
   exact boR_at h m (by omega) fun j a b => h2 j a (by omega)
theorem zqp {N : Nat} {s : List (BitVec 64)} : ∀ m : Nat, (∀ j, 0 < j → j ≤ m → (asc N j 0).find? (zfn s) = none) → boR N s m = none
 | 0, _ => rfl
 | m + 1, h => by
  rw [boR, h (m + 1) (by omega) (Nat.le_refl _), Option.none_or]
  exact zqp m fun j a b => h j a (by omega)
theorem bou_list (N : Nat) (hN : N ≤ 64) (s : List (BitVec 64)) : bouL N s = (boR N s N).getD [] := by
 have hE : bouL N s = (apS (zc3 s) N 0 0).foldl upd [] := by
  unfold bouL zjw
  rw [bw_eq, show upd [] [] = ([] : List Int) from rfl, Nat.sub_zero]
  congr 1
  exact List.map_id _
 have hf : ∀ k, ((apS (zc3 s) N 0 0).filter fun c => c.length == k + 1).head? = (asc N (k + 1) 0).find? (zfn s) := fun k => by
  rw [zfx (zc3 s) N N k 0 0 (Nat.zero_add _), List.head?_filter]
  have : ∀ L : List (List Int), (∀ c ∈ L, Up c) → L.find? (apq (zc3 s) 0) = L.find? (zfn s) := by
   intro L
   induction L with
   | nil => intro _; rfl
   | cons c L ih =>
    intro h
    have e : apq (zc3 s) 0 c = zfn s c := by
     rw [zqh, znv s c (h c (List.mem_cons_self ..))]
     simp
    rw [List.find?_cons, List.find?_cons, e, ih fun x hx => h x (List.mem_cons_of_mem _ hx)]
  exact this _ fun c hc => zs1 hN hc
 have hl := zll (zc3 s) N 0 0
 rw [hE]
 generalize apS (zc3 s) N 0 0 = E at *
 obtain ⟨b1, b2⟩ := zn0 E [[]] [] (by simp) (by simp) (by simp)
 generalize E.foldl upd [] = B at *
 have hnone : ∀ j, B.length < j → (asc N j 0).find? (zfn s) = none := fun j hj => by
  obtain ⟨q, rfl⟩ : ∃ q, j = q + 1 := ⟨j - 1, by omega⟩
  rw [← hf q, List.filter_eq_nil_iff.2]
  ·rfl
  ·intro c hc e
   have := b1 c (List.mem_append_right _ hc)
   have : c.length = q + 1 := by simpa using e
   omega
 cases hB : B.length with
 | zero =>
  rw [zqp N fun j hj _ => hnone j (by omega), List.length_eq_zero_iff.1 hB]
  rfl
 | succ k =>
  rw [List.filter_append, hB, show ([[]] : List (List Int)).filter (fun l => l.length == k + 1) = [] from rfl, List.nil_append, hf k] at b2
  have hBm : B.length ≤ N := by
   have h3 := List.mem_of_find?_eq_some b2
   refine Nat.le_of_not_lt fun hx => ?_
   rw [zln (by omega) (by omega)] at h3
   cases h3
  rw [boR_at b2 N (by omega) fun j a _ => hnone j (by omega)]
  rfl
end Go.Proofs.Ytknomkcdpcnmaaa
