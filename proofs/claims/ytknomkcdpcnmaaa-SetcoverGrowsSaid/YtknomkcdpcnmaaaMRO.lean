/-
  THE REGION THAT ADDS A SET (SetcoverGrows): what is known of the memory, as facts.
-/
import Derived.Test.YtknomkcdpcnmaaaMRM
import Derived.Test.YtknomkcdpcnmaaaMS0
namespace Go.Proofs.Ytknomkcdpcnmaaa
open Go Go.Am
def zr9 : List Opr := [⟨(some 20), .faddr 0 (.t 2), none⟩, ⟨(some 21), .load none (.t 20), none⟩, ⟨(some 22), .faddr 1 (.t 2), none⟩, ⟨(some 23), .load none (.t 22), none⟩, ⟨(some 24), .call (.c (.fn 27 [] [])) [(.t 23)], none⟩, ⟨(some 25), .mov (.t 1), none⟩, ⟨(some 26), .conv .u64 (.t 25), none⟩, ⟨(some 27), .faddr 0 (.t 2), none⟩, ⟨(some 28), .load none (.t 27), none⟩, ⟨(some 29), .bin .shl (.c (.int .u64 1)) (.t 28), none⟩, ⟨(some 30), .bin .sub (.t 29) (.c (.int .u64 1)), none⟩, ⟨(some 31), .bin .and (.t 26) (.t 30), none⟩, ⟨(some 32), .bslice 1 1 [.int .u64 0] [(0, 1, (.t 31))], none⟩, ⟨(some 33), .append 1 8 [.int .u64 0] (.t 24) (.t 32), none⟩, ⟨(some 34), .build [.int .i64 0, .nils] [(0, 1, (.t 21)), (1, 1, (.t 33))], none⟩, ⟨(some 5), .alloc [.int .i64 0, .nils], none⟩, ⟨none, .store 2 (.t 5) (.t 34), none⟩]
def reg6p : List (List Nat) := [[], [0], [], [2], [3], [], [5], [], [7], [8], [9], [6, 10], [11], [4, 12, 4], [1, 13], [], [15, 14, 13, 0, 1, 2, 3, 4, 5, 6, 7, 8, 9, 10, 11, 12, 13, 14, 15]]
structure Nm where
 i4 : Nat
 s4 : Nat
 i12 : Nat
 s12 : Nat
 s13 : Nat
 i15 : Nat
 s15 : Nat
def dv6 (m : Nat) (s : List (BitVec 64)) (u : AV) (w : BitVec 64) (q : Nm) : Nat → Option (Nat × AV)
 | 0 => some (20, .vptr [.int .i64 (m : Nat), .vs (cUs s)])
 | 1 => some (21, .int .i64 (m : Nat))
 | 2 => some (22, .vptr [.vs (cUs s)])
 | 3 => some (23, .vs (cUs s))
 | 4 => some (24, .ms q.i4 q.s4 1 0 s.length none)
 | 5 => some (25, u)
 | 6 => some (26, cU w)
 | 7 => some (27, .vptr [.int .i64 (m : Nat), .vs (cUs s)])
 | 8 => some (28, .int .i64 (m : Nat))
 | 9 => some (29, cU (1#64 <<< m))
 | 10 => some (30, cU (1#64 <<< m - 1#64))
 | 11 => some (31, cU (w &&& (1#64 <<< m - 1#64)))
 | 12 => some (32, .ms q.i12 q.s12 1 0 1 (some 1))
 | 13 => some (33, .ms q.i4 q.s13 1 0 (s.length + 1) none)
 | 14 => some (34, .agg [.int .i64 (m : Nat), .ms q.i4 q.s13 1 0 (s.length + 1) none])
 | 15 => some (5, .mptr q.i15 q.s15 0)
 | _ => none
def dd6 : Nat → Nat
 | 15 => 5
 | j => 20 + j
theorem zsy {m : Nat} {s : List (BitVec 64)} {u : AV} {w : BitVec 64} {q : Nm} : ∀ {j e : Nat} {v : AV}, dv6 m s u w q j = some (e, v) → e = dd6 j ∧ j < 16
 | 0, _, _, h | 1, _, _, h | 2, _, _, h | 3, _, _, h | 4, _, _, h | 5, _, _, h | 6, _, _, h | 7, _, _, h | 8, _, _, h | 9, _, _, h | 10, _, _, h | 11, _, _, h | 12, _, _, h | 13, _, _, h | 14, _, _, h | 15, _, _, h => by
  injection h with h
  injection h with h1 h2
  exact ⟨h1.symm, by decide⟩
 | j + 16, _, _, h => by cases h
theorem dd6_ne {i j : Nat} (hi : i < 16) (hj : j < 16) (h : j ≠ i) : dd6 i ≠ dd6 j := by
 have : ∀ a < 16, ∀ b < 16, b ≠ a → dd6 a ≠ dd6 b := by decide
 exact this i hi j hj h
structure Mem6 (m : Nat) (s : List (BitVec 64)) (x : BitVec 64) (D : List Nat) (hp : List (Nat × Nat × AObj)) (nx : Nat) (q : Nm) : Prop where
 h4 : 4 ∈ D → 13 ∉ D → Am.look q.i4 hp = some (q.s4, .cells (s.map cU))
 l4 : 4 ∈ D → q.i4 < nx
 h12 : 12 ∈ D → Am.look q.i12 hp = some (q.s12, .cells [cU x])
 l12 : 12 ∈ D → q.i12 < nx
 h13 : 13 ∈ D → Am.look q.i4 hp = some (q.s13, .cells ((s ++ [x]).map cU))
 h15 : 15 ∈ D → 16 ∉ D → Am.look q.i15 hp = some (q.s15, .cells [.int .i64 0, .nils])
 l15 : 15 ∈ D → q.i15 < nx
 h16 : 16 ∈ D → Am.look q.i15 hp = some (q.s15, .cells [.int .i64 (m : Nat), .ms q.i4 q.s13 1 0 (s.length + 1) none])
 d1 : 4 ∈ D → 15 ∈ D → q.i4 ≠ q.i15
 d2 : 4 ∈ D → 12 ∈ D → q.i4 ≠ q.i12
 d3 : 12 ∈ D → 15 ∈ D → q.i12 ≠ q.i15
 c13 : 13 ∈ D → 4 ∈ D ∧ 12 ∈ D
 c16 : 16 ∈ D → 13 ∈ D ∧ 15 ∈ D
 c14 : 14 ∈ D → 13 ∈ D
theorem Mem6.keep {m : Nat} {s : List (BitVec 64)} {x : BitVec 64} {D : List Nat} {hp : List (Nat × Nat × AObj)} {nx j : Nat} {q : Nm} (h : Mem6 m s x D hp nx q) (n4 : j ≠ 4) (n12 : j ≠ 12) (n13 : j ≠ 13) (n15 : j ≠ 15) (n16 : j ≠ 16) (h14 : j = 14 → 13 ∈ D) : Mem6 m s x (j :: D) hp nx q := by
 have e : ∀ k, j ≠ k → k ∈ j :: D → k ∈ D := fun k hk hm => (List.mem_cons.1 hm).resolve_left fun e => hk e.symm
 have f : ∀ k, k ∉ j :: D → k ∉ D := fun k hk hm => hk (List.mem_cons_of_mem _ hm)
 exact ⟨fun a b => h.h4 (e 4 n4 a) (f 13 b), fun a => h.l4 (e 4 n4 a), fun a => h.h12 (e 12 n12 a), fun a => h.l12 (e 12 n12 a), fun a => h.h13 (e 13 n13 a), fun a b => h.h15 (e 15 n15 a) (f 16 b), fun a => h.l15 (e 15 n15 a), fun a => h.h16 (e 16 n16 a), fun a b => h.d1 (e 4 n4 a) (e 15 n15 b), fun a b => h.d2 (e 4 n4 a) (e 12 n12 b), fun a b => h.d3 (e 12 n12 a) (e 15 n15 b), fun a => ⟨List.mem_cons_of_mem _ (h.c13 (e 13 n13 a)).1, List.mem_cons_of_mem _ (h.c13 (e 13 n13 a)).2⟩, fun a => ⟨List.mem_cons_of_mem _ (h.c16 (e 16 n16 a)).1, List.mem_cons_of_mem _ (h.c16 (e 16 n16 a)).2⟩, fun a => List.mem_cons_of_mem _ ((List.mem_cons.1 a).elim (fun e => h14 e.symm) h.c14)⟩
def zgw (m : Nat) (s : List (BitVec 64)) (u : AV) : List (Nat × AV) := [(1, u), (2, .vptr [.int .i64 (m : Nat), .vs (cUs s)])]
def Inv6 (m : Nat) (s : List (BitVec 64)) (u : AV) (w : BitVec 64) (D : List Nat) (S : AS) : Prop :=
 ∃ l hp nx ck q, S = st 107 l hp nx ck ∧ Lk (zgw m s u) (dv6 m s u w q) D l ∧ Mem6 m s (w &&& (1#64 <<< m - 1#64)) D hp nx q
theorem zp6 {m : Nat} {s : List (BitVec 64)} {u : AV} {j : Nat} (hj : j < 16) : ∀ t v, (t, v) ∈ zgw m s u → dd6 j ≠ t := fun t v h => by
 unfold zgw at h
 simp only [List.mem_cons, Prod.mk.injEq, List.not_mem_nil, or_false] at h
 have : ∀ k < 16, 3 ≤ dd6 k := by decide
 have := this j hj
 omega
theorem zhl {m : Nat} {s : List (BitVec 64)} {u : AV} {w : BitVec 64} {P : Program} {w0 : World} {N0 : Nat} {rd : Option (Nat × Nat)} {K : AS → Prop} {r : Nat} {D : List Nat} {l : List (Nat × AV)} {hp : List (Nat × Nat × AObj)} {nx ck : Nat} {q : Nm} {v : AV} {op : IOp} (j : Nat) (hj : j < 16) (n4 : j ≠ 4) (n12 : j ≠ 12) (n13 : j ≠ 13) (n15 : j ≠ 15) (h14 : j = 14 → 13 ∈ D)
  (hL : Lk (zgw m s u) (dv6 m s u w q) D l) (hP : Mem6 m s (w &&& (1#64 <<< m - 1#64)) D hp nx q) (hni : j ∉ D)
  (hv : dv6 m s u w q j = some (dd6 j, v)) (hio : zr9[j]? = some ⟨some (dd6 j), op, none⟩) (hok : zc3 107 (some (dd6 j)) = true) (hi : iop (st 107 l hp nx ck) op = some (v, st 107 l hp nx ck))
  (go : ∀ S', Inv6 m s u w (j :: D) S' → AnyF P w0 N0 rd zr9 reg6p r (j :: D) S' K) : StF P w0 N0 rd zr9 reg6p r D (st 107 l hp nx ck) K j :=
 zi9 hio hok hi (go _ ⟨_, _, _, _, q, rfl, hL.add hv (zp6 hj) (fun _ _ _ => rfl) (fun k e v hk he => by
  obtain ⟨e1, e2⟩ := zsy he
  rw [e1]
  exact dd6_ne hj e2 hk) hni, hP.keep n4 n12 n13 n15 (by omega) h14⟩)
theorem zav {hp : List (Nat × Nat × AObj)} {j nx ck : Nat} {o : AObj} (h : j < nx) : Am.look j ((nx, ck, o) :: hp) = Am.look j hp := by rw [zag, if_neg (by omega)]
theorem zli {hp : List (Nat × Nat × AObj)} {nx ck : Nat} {o : AObj} : Am.look nx ((nx, ck, o) :: hp) = some (ck, o) := by rw [zag, if_pos rfl]
theorem Mem6.alloc {m : Nat} {s : List (BitVec 64)} {x : BitVec 64} {D : List Nat} {hp : List (Nat × Nat × AObj)} {nx ck : Nat} {q : Nm} (h : Mem6 m s x D hp nx q) (n15 : 15 ∉ D) : Mem6 m s x (15 :: D) ((nx, ck, .cells [.int .i64 0, .nils]) :: hp) (nx + 1) { q with i15 := nx, s15 := ck } := by
 have e : ∀ k, 15 ≠ k → k ∈ 15 :: D → k ∈ D := fun k hk hm => (List.mem_cons.1 hm).resolve_left fun e => hk e.symm
 have f : ∀ k, k ∉ 15 :: D → k ∉ D := fun k hk hm => hk (List.mem_cons_of_mem _ hm)
 have g : 16 ∉ D := fun h16 => n15 (h.c16 h16).2
 refine ⟨fun a b => ?_, fun a => ?_, fun a => ?_, fun a => ?_, fun a => ?_, fun _ _ => zli, fun _ => Nat.lt_succ_self _, fun a => absurd (e 16 (by decide) a) g, fun a _ => ?_, fun a b => h.d2 (e 4 (by decide) a) (e 12 (by decide) b), fun a _ => ?_, fun a => ⟨List.mem_cons_of_mem _ (h.c13 (e 13 (by decide) a)).1, List.mem_cons_of_mem _ (h.c13 (e 13 (by decide) a)).2⟩, fun a => absurd (e 16 (by decide) a) g, fun a => List.mem_cons_of_mem _ (h.c14 (e 14 (by decide) a))⟩
 ·rw [zav (h.l4 (e 4 (by decide) a))]; exact h.h4 (e 4 (by decide) a) (f 13 b)
 ·have := h.l4 (e 4 (by decide) a); show q.i4 < nx + 1; omega
 ·rw [zav (h.l12 (e 12 (by decide) a))]; exact h.h12 (e 12 (by decide) a)
 ·have := h.l12 (e 12 (by decide) a); show q.i12 < nx + 1; omega
 ·rw [zav (h.l4 (h.c13 (e 13 (by decide) a)).1)]; exact h.h13 (e 13 (by decide) a)
 ·have := h.l4 (e 4 (by decide) a); show q.i4 ≠ nx; omega
 ·have := h.l12 (e 12 (by decide) a); show q.i12 ≠ nx; omega
theorem Mem6.slice {m : Nat} {s : List (BitVec 64)} {x : BitVec 64} {D : List Nat} {hp : List (Nat × Nat × AObj)} {nx ck : Nat} {q : Nm} (h : Mem6 m s x D hp nx q) (n12 : 12 ∉ D) : Mem6 m s x (12 :: D) ((nx, ck, .cells [cU x]) :: hp) (nx + 1) { q with i12 := nx, s12 := ck } := by
 have e : ∀ k, 12 ≠ k → k ∈ 12 :: D → k ∈ D := fun k hk hm => (List.mem_cons.1 hm).resolve_left fun e => hk e.symm
 have f : ∀ k, k ∉ 12 :: D → k ∉ D := fun k hk hm => hk (List.mem_cons_of_mem _ hm)
 have g13 : 13 ∉ D := fun h13 => n12 (h.c13 h13).2
 have g : 16 ∉ D := fun h16 => g13 (h.c16 h16).1
 refine ⟨fun a b => ?_, fun a => ?_, fun _ => zli, fun _ => Nat.lt_succ_self _, fun a => absurd (e 13 (by decide) a) g13, fun a b => ?_, fun a => ?_, fun a => absurd (e 16 (by decide) a) g, fun a b => h.d1 (e 4 (by decide) a) (e 15 (by decide) b), fun a _ => ?_, fun _ b => ?_, fun a => absurd (e 13 (by decide) a) g13, fun a => absurd (e 16 (by decide) a) g, fun a => absurd (h.c14 (e 14 (by decide) a)) g13⟩
 ·rw [zav (h.l4 (e 4 (by decide) a))]; exact h.h4 (e 4 (by decide) a) (f 13 b)
 ·have := h.l4 (e 4 (by decide) a); show q.i4 < nx + 1; omega
 ·rw [zav (h.l15 (e 15 (by decide) a))]; exact h.h15 (e 15 (by decide) a) (f 16 b)
 ·have := h.l15 (e 15 (by decide) a); show q.i15 < nx + 1; omega
 ·have := h.l4 (e 4 (by decide) a); show q.i4 ≠ nx; omega
 ·have := h.l15 (e 15 (by decide) b); show nx ≠ q.i15; omega
theorem Mem6.clone {m : Nat} {s : List (BitVec 64)} {x : BitVec 64} {D : List Nat} {hp : List (Nat × Nat × AObj)} {nx ck : Nat} {q : Nm} (h : Mem6 m s x D hp nx q) (n4 : 4 ∉ D) : Mem6 m s x (4 :: D) ((nx + 1, ck + 1, .cells (s.map cU)) :: (nx, ck, .cells []) :: hp) (nx + 1 + 1) { q with i4 := nx + 1, s4 := ck + 1 } := by
 have e : ∀ k, 4 ≠ k → k ∈ 4 :: D → k ∈ D := fun k hk hm => (List.mem_cons.1 hm).resolve_left fun e => hk e.symm
 have f : ∀ k, k ∉ 4 :: D → k ∉ D := fun k hk hm => hk (List.mem_cons_of_mem _ hm)
 have g13 : 13 ∉ D := fun h13 => n4 (h.c13 h13).1
 have g : 16 ∉ D := fun h16 => g13 (h.c16 h16).1
 refine ⟨fun _ _ => zli, fun _ => Nat.lt_succ_self _, fun a => ?_, fun a => ?_, fun a => absurd (e 13 (by decide) a) g13, fun a b => ?_, fun a => ?_, fun a => absurd (e 16 (by decide) a) g, fun _ b => ?_, fun _ b => ?_, fun a b => h.d3 (e 12 (by decide) a) (e 15 (by decide) b), fun a => absurd (e 13 (by decide) a) g13, fun a => absurd (e 16 (by decide) a) g, fun a => absurd (h.c14 (e 14 (by decide) a)) g13⟩
 ·have := h.l12 (e 12 (by decide) a)
  rw [zav (show q.i12 < nx + 1 by omega), zav this]
  exact h.h12 (e 12 (by decide) a)
 ·have := h.l12 (e 12 (by decide) a); show q.i12 < nx + 1 + 1; omega
 ·have := h.l15 (e 15 (by decide) a)
  rw [zav (show q.i15 < nx + 1 by omega), zav this]
  exact h.h15 (e 15 (by decide) a) (f 16 b)
 ·have := h.l15 (e 15 (by decide) a); show q.i15 < nx + 1 + 1; omega
 ·have := h.l15 (e 15 (by decide) b); show nx + 1 ≠ q.i15; omega
 ·have := h.l12 (e 12 (by decide) b); show nx + 1 ≠ q.i12; omega
theorem Mem6.clone0 {m : Nat} {x : BitVec 64} {D : List Nat} {hp : List (Nat × Nat × AObj)} {nx ck : Nat} {q : Nm} (h : Mem6 m [] x D hp nx q) (n4 : 4 ∉ D) : Mem6 m [] x (4 :: D) ((nx, ck, .cells []) :: hp) (nx + 1) { q with i4 := nx, s4 := ck } := by
 have e : ∀ k, 4 ≠ k → k ∈ 4 :: D → k ∈ D := fun k hk hm => (List.mem_cons.1 hm).resolve_left fun e => hk e.symm
 have f : ∀ k, k ∉ 4 :: D → k ∉ D := fun k hk hm => hk (List.mem_cons_of_mem _ hm)
 have g13 : 13 ∉ D := fun h13 => n4 (h.c13 h13).1
 have g : 16 ∉ D := fun h16 => g13 (h.c16 h16).1
 refine ⟨fun _ _ => zli, fun _ => Nat.lt_succ_self _, fun a => ?_, fun a => ?_, fun a => absurd (e 13 (by decide) a) g13, fun a b => ?_, fun a => ?_, fun a => absurd (e 16 (by decide) a) g, fun _ b => ?_, fun _ b => ?_, fun a b => h.d3 (e 12 (by decide) a) (e 15 (by decide) b), fun a => absurd (e 13 (by decide) a) g13, fun a => absurd (e 16 (by decide) a) g, fun a => absurd (h.c14 (e 14 (by decide) a)) g13⟩
 ·have := h.l12 (e 12 (by decide) a)
  rw [zav this]
  exact h.h12 (e 12 (by decide) a)
 ·have := h.l12 (e 12 (by decide) a); show q.i12 < nx + 1; omega
 ·have := h.l15 (e 15 (by decide) a)
  rw [zav this]
  exact h.h15 (e 15 (by decide) a) (f 16 b)
 ·have := h.l15 (e 15 (by decide) a); show q.i15 < nx + 1; omega
 ·have := h.l15 (e 15 (by decide) b); show nx ≠ q.i15; omega
 ·have := h.l12 (e 12 (by decide) b); show nx ≠ q.i12; omega
theorem Mem6.app {m : Nat} {s : List (BitVec 64)} {x : BitVec 64} {D : List Nat} {hp : List (Nat × Nat × AObj)} {nx ck : Nat} {q : Nm} (h : Mem6 m s x D hp nx q) (h4 : 4 ∈ D) (h12 : 12 ∈ D) (n13 : 13 ∉ D) : Mem6 m s x (13 :: D) (zb1 q.i4 (ck, .cells ((s ++ [x]).map cU)) hp) nx { q with s13 := ck } := by
 have e : ∀ k, 13 ≠ k → k ∈ 13 :: D → k ∈ D := fun k hk hm => (List.mem_cons.1 hm).resolve_left fun e => hk e.symm
 have f : ∀ k, k ∉ 13 :: D → k ∉ D := fun k hk hm => hk (List.mem_cons_of_mem _ hm)
 have g : 16 ∉ D := fun h16 => n13 (h.c16 h16).1
 have ne : ∀ {j : Nat}, q.i4 ≠ j → Am.look j (zb1 q.i4 (ck, .cells ((s ++ [x]).map cU)) hp) = Am.look j hp := fun hj => by rw [za6, if_neg hj]
 refine ⟨fun _ b => absurd (List.mem_cons_self ..) b, fun _ => h.l4 h4, fun _ => ?_, fun _ => h.l12 h12, fun _ => by rw [za6, if_pos rfl], fun a b => ?_, fun a => h.l15 (e 15 (by decide) a), fun a => absurd (e 16 (by decide) a) g, fun _ b => h.d1 h4 (e 15 (by decide) b), fun _ _ => h.d2 h4 h12, fun _ b => h.d3 h12 (e 15 (by decide) b), fun _ => ⟨List.mem_cons_of_mem _ h4, List.mem_cons_of_mem _ h12⟩, fun a => absurd (e 16 (by decide) a) g, fun _ => List.mem_cons_self ..⟩
 ·rw [ne (h.d2 h4 h12)]; exact h.h12 h12
 ·rw [ne (h.d1 h4 (e 15 (by decide) a))]; exact h.h15 (e 15 (by decide) a) (f 16 b)
theorem Mem6.sto {m : Nat} {s : List (BitVec 64)} {x : BitVec 64} {D : List Nat} {hp : List (Nat × Nat × AObj)} {nx : Nat} {q : Nm} (h : Mem6 m s x D hp nx q) (h4 : 4 ∈ D) (h12 : 12 ∈ D) (h13 : 13 ∈ D) (h15 : 15 ∈ D) : Mem6 m s x (16 :: D) (zb1 q.i15 (q.s15, .cells [.int .i64 (m : Nat), .ms q.i4 q.s13 1 0 (s.length + 1) none]) hp) nx q := by
 have ne : ∀ {j : Nat} {o : AObj}, q.i15 ≠ j → Am.look j (zb1 q.i15 (q.s15, o) hp) = Am.look j hp := fun hj => by rw [za6, if_neg hj]
 refine ⟨fun _ b => absurd (List.mem_cons_of_mem _ h13) b, fun _ => h.l4 h4, fun _ => ?_, fun _ => h.l12 h12, fun _ => ?_, fun _ b => absurd (List.mem_cons_self ..) b, fun _ => h.l15 h15, fun _ => by rw [za6, if_pos rfl], fun _ _ => h.d1 h4 h15, fun _ _ => h.d2 h4 h12, fun _ _ => h.d3 h12 h15, fun _ => ⟨List.mem_cons_of_mem _ h4, List.mem_cons_of_mem _ h12⟩, fun _ => ⟨List.mem_cons_of_mem _ h13, List.mem_cons_of_mem _ h15⟩, fun _ => List.mem_cons_of_mem _ h13⟩
 ·rw [ne (fun e => h.d3 h12 h15 e.symm)]; exact h.h12 h12
 ·rw [ne (fun e => h.d1 h4 h15 e.symm)]; exact h.h13 h13
theorem clone27e {w0 : World} {N0 : Nat} (H : HS) : FT Try.prog w0 N0 27 [.vs (cUs [])] H fun v H' => v = .ms H.next H.clk 1 0 0 none ∧ H' = ⟨(H.next, H.clk, .cells []) :: H.heap, H.next + 1, H.clk + 1⟩ := by
 refine zco env0_ok fn27 [(0, .vs (cUs []))] (by show 1 ≤ 8; decide) rfl ?_
 unfold ic27
 refine za5 (za0 rfl (za1 rfl (za3 (za4 (za5 (za5 (za0 rfl (za1 rfl ?_))))))))
 refine o_nilq rfl fun b => ?_
 cases b with
 | true =>
  repeat (first | refine za5 ?_ | refine za0 rfl ?_ | refine za3 ?_ | refine za4 ?_ | refine zbg ?_ | refine zaf ?_ | refine zac ?_ | refine zbv rfl ?_ | refine zbk rfl ?_ | refine zbc ?_ | refine zbb ?_ | refine zad ?_ | refine zb2 rfl ?_ | refine za8 ?_ | refine za9 ?_ | refine zcr rfl ?_ | refine zg5 rfl rfl ?_ | refine zoa rfl ?_ | refine za1 rfl ?_ | refine zah rfl rfl ?_ | refine zay rfl rfl rfl rfl ?_ | refine zbf rfl rfl rfl rfl rfl rfl rfl ?_ | refine zcf rfl ?_ | refine zab rfl rfl rfl ?_ | refine zar rfl rfl rfl ?_ | refine zbs rfl rfl rfl rfl ?_ | refine zbx ?_ | refine zam rfl rfl ?_ | refine zal rfl rfl ?_ | refine zlm rfl rfl ?_ | refine zb8 rfl rfl ?_ | refine zd1 rfl rfl ?_ | refine zbd rfl rfl ?_ | refine zcw rfl rfl ?_ | refine zbt rfl rfl rfl ?_ | refine zd2 rfl rfl ?_ | refine zce rfl rfl rfl rfl ?_ | refine zbr rfl rfl rfl rfl ?_ | refine zch rfl rfl rfl rfl ?_ | refine zdr rfl rfl ?_ | refine zde rfl rfl ?_ | refine zb4 rfl rfl ?_ | refine zed ?_ | refine zc1 env0_ok rfl rfl rfl ?_ | refine zae (op := .add) rfl rfl rfl ?_ | refine zae (op := .sub) rfl rfl rfl ?_ | refine zds rfl rfl rfl ?_ | refine zec rfl rfl rfl ?_ | refine zbw rfl rfl rfl ?_ | refine zb7 rfl rfl rfl ?_ | refine zbe rfl rfl (by omega) (by assumption) rfl ?_ | refine zar rfl rfl (decide_eq_true ⟨by omega, by omega⟩) ?_ | refine zbm rfl rfl (by omega) (by omega) ?_ | refine zcg rfl rfl rfl ?_ | refine zef rfl ?_ | refine zee rfl ?_)
  refine znh 2 1 rfl ?_
  refine zao (za8 ?_)
  exact zaj ⟨.inr rfl, _, rfl, rfl, rfl⟩
 | false =>
  repeat (first | refine za5 ?_ | refine za0 rfl ?_ | refine za3 ?_ | refine za4 ?_ | refine zbg ?_ | refine zaf ?_ | refine zac ?_ | refine zbv rfl ?_ | refine zbk rfl ?_ | refine zbc ?_ | refine zbb ?_ | refine zad ?_ | refine zb2 rfl ?_ | refine za8 ?_ | refine za9 ?_ | refine zcr rfl ?_ | refine zg5 rfl rfl ?_ | refine zoa rfl ?_ | refine za1 rfl ?_ | refine zah rfl rfl ?_ | refine zay rfl rfl rfl rfl ?_ | refine zbf rfl rfl rfl rfl rfl rfl rfl ?_ | refine zcf rfl ?_ | refine zab rfl rfl rfl ?_ | refine zar rfl rfl rfl ?_ | refine zbs rfl rfl rfl rfl ?_ | refine zbx ?_ | refine zam rfl rfl ?_ | refine zal rfl rfl ?_ | refine zlm rfl rfl ?_ | refine zb8 rfl rfl ?_ | refine zd1 rfl rfl ?_ | refine zbd rfl rfl ?_ | refine zcw rfl rfl ?_ | refine zbt rfl rfl rfl ?_ | refine zd2 rfl rfl ?_ | refine zce rfl rfl rfl rfl ?_ | refine zbr rfl rfl rfl rfl ?_ | refine zch rfl rfl rfl rfl ?_ | refine zdr rfl rfl ?_ | refine zde rfl rfl ?_ | refine zb4 rfl rfl ?_ | refine zed ?_ | refine zc1 env0_ok rfl rfl rfl ?_ | refine zae (op := .add) rfl rfl rfl ?_ | refine zae (op := .sub) rfl rfl rfl ?_ | refine zds rfl rfl rfl ?_ | refine zec rfl rfl rfl ?_ | refine zbw rfl rfl rfl ?_ | refine zb7 rfl rfl rfl ?_ | refine zbe rfl rfl (by omega) (by assumption) rfl ?_ | refine zar rfl rfl (decide_eq_true ⟨by omega, by omega⟩) ?_ | refine zbm rfl rfl (by omega) (by omega) ?_ | refine zcg rfl rfl rfl ?_ | refine zef rfl ?_ | refine zee rfl ?_)
  refine z_cap0 2 rfl ?_
  refine zao ?_
  exact zaj ⟨.inr rfl, _, rfl, rfl, rfl⟩
set_option maxHeartbeats 2000000 in
theorem step6 {w0 : World} {N0 : Nat} {rd : Option (Nat × Nat)} {K : AS → Prop} (m : Nat) (hm : m ≤ 64) (s : List (BitVec 64)) (u : AV) (w : BitVec 64) (hu : zhj .u64 u = some (cU w)) (hs : s.length ≤ 100) (r : Nat) (D : List Nat) (S : AS) (j : Nat) (hI : Inv6 m s u w D S) (hj : j < 17) (hni : j ∉ D) (hpre : ∀ p ∈ reg6p.getD j [], p ∈ D)
  (go : ∀ S', Inv6 m s u w (j :: D) S' → AnyF Try.prog w0 N0 rd zr9 reg6p r (j :: D) S' K) : StF Try.prog w0 N0 rd zr9 reg6p r D S K j := by
 obtain ⟨l, hp, nx, ck, q, rfl, hL, hP⟩ := hI
 have b1 : zbh 1 l = some u := hL.1 _ _ (by unfold zgw; simp)
 have b2 : zbh 2 l = some (.vptr [.int .i64 (m : Nat), .vs (cUs s)]) := hL.1 _ _ (by unfold zgw; simp)
 have pr : ∀ k d v, dv6 m s u w q k = some (d, v) → k ∈ D → zbh d l = some v := hL.2
 have ad : ∀ {i : Nat} {v : AV} {q' : Nm}, i < 16 → i ∉ D → dv6 m s u w q' i = some (dd6 i, v) → (∀ k, k ∈ D → k ≠ i → dv6 m s u w q' k = dv6 m s u w q k) → Lk (zgw m s u) (dv6 m s u w q') (i :: D) ((dd6 i, v) :: l) := fun hi hn hv hs => hL.add hv (zp6 hi) hs (fun k e v hk he => by
  obtain ⟨e1, e2⟩ := zsy he
  rw [e1]
  exact dd6_ne hi e2 hk) hn
 match j, hj, hni, hpre, go with
 | 0, _, hni, hpre, go => exact zhl 0 (by decide) (by decide) (by decide) (by decide) (by decide) (fun e => by cases e) hL hP hni rfl rfl rfl (zhv b2 rfl rfl) go
 | 1, _, hni, hpre, go => exact zhl 1 (by decide) (by decide) (by decide) (by decide) (by decide) (fun e => by cases e) hL hP hni rfl rfl rfl (zmo (pr 0 20 _ rfl (hpre 0 (by decide))) rfl) go
 | 2, _, hni, hpre, go => exact zhl 2 (by decide) (by decide) (by decide) (by decide) (by decide) (fun e => by cases e) hL hP hni rfl rfl rfl (zhv b2 rfl rfl) go
 | 3, _, hni, hpre, go => exact zhl 3 (by decide) (by decide) (by decide) (by decide) (by decide) (fun e => by cases e) hL hP hni rfl rfl rfl (zmo (pr 2 22 _ rfl (hpre 2 (by decide))) rfl) go
 | 5, _, hni, hpre, go => exact zhl 5 (by decide) (by decide) (by decide) (by decide) (by decide) (fun e => by cases e) hL hP hni rfl rfl rfl (g_mov b1) go
 | 6, _, hni, hpre, go => exact zhl 6 (by decide) (by decide) (by decide) (by decide) (by decide) (fun e => by cases e) hL hP hni rfl rfl rfl (g_conv (pr 5 25 _ rfl (hpre 5 (by decide))) hu) go
 | 7, _, hni, hpre, go => exact zhl 7 (by decide) (by decide) (by decide) (by decide) (by decide) (fun e => by cases e) hL hP hni rfl rfl rfl (zhv b2 rfl rfl) go
 | 8, _, hni, hpre, go => exact zhl 8 (by decide) (by decide) (by decide) (by decide) (by decide) (fun e => by cases e) hL hP hni rfl rfl rfl (zmo (pr 7 27 _ rfl (hpre 7 (by decide))) rfl) go
 | 9, _, hni, hpre, go =>
  have hx : zb0 (.c (.int .u64 1)) l = some (cU 1#64) := rfl
  have hy : zb0 (.t 28) l = some (.int .i64 (m : Nat)) := pr 8 28 _ rfl (hpre 8 (by decide))
  have hz : iop (st 107 l hp nx ck) (.bin .shl (.c (.int .u64 1)) (.t 28)) = some (cU (1#64 <<< m), st 107 l hp nx ck) := by
   simp only [iop, zap, hx, hy, zhq 1#64 hm]
   rfl
  exact zhl 9 (by decide) (by decide) (by decide) (by decide) (by decide) (fun e => by cases e) hL hP hni rfl rfl rfl hz go
 | 10, _, hni, hpre, go =>
  have hx : zb0 (.t 29) l = some (cU (1#64 <<< m)) := pr 9 29 _ rfl (hpre 9 (by decide))
  have hy : zb0 (.c (.int .u64 1)) l = some (cU 1#64) := rfl
  have hz : iop (st 107 l hp nx ck) (.bin .sub (.t 29) (.c (.int .u64 1))) = some (cU (1#64 <<< m - 1#64), st 107 l hp nx ck) := by
   simp only [iop, zap, hx, hy, zhr]
   rfl
  exact zhl 10 (by decide) (by decide) (by decide) (by decide) (by decide) (fun e => by cases e) hL hP hni rfl rfl rfl hz go
 | 11, _, hni, hpre, go =>
  have hx : zb0 (.t 26) l = some (cU w) := pr 6 26 _ rfl (hpre 6 (by decide))
  have hy : zb0 (.t 30) l = some (cU (1#64 <<< m - 1#64)) := pr 10 30 _ rfl (hpre 10 (by decide))
  have hz : iop (st 107 l hp nx ck) (.bin .and (.t 26) (.t 30)) = some (cU (w &&& (1#64 <<< m - 1#64)), st 107 l hp nx ck) := by
   simp only [iop, zap, hx, hy, zdp]
   rfl
  exact zhl 11 (by decide) (by decide) (by decide) (by decide) (by decide) (fun e => by cases e) hL hP hni rfl rfl rfl hz go
 | 14, _, hni, hpre, go =>
  have h1 := pr 1 21 _ rfl (hpre 1 (by decide))
  have h2 := pr 13 33 _ rfl (hpre 13 (by decide))
  exact zhl 14 (by decide) (by decide) (by decide) (by decide) (by decide) (fun _ => hpre 13 (by decide)) hL hP hni rfl rfl rfl (zt9 (pl := [(0, .int .i64 (m : Nat)), (1, .ms q.i4 q.s13 1 0 (s.length + 1) none)]) (by simp only [zgm, zb0, h1, h2, AV.cells?]; rfl) rfl) go
 | 4, _, hni, hpre, go =>
  have h1 := pr 3 23 _ rfl (hpre 3 (by decide))
  by_cases hne : s = []
  ·subst hne
   refine zkp (i := 4) _ rfl rfl rfl (vs := [.vs (cUs [])]) (by simp only [zg8, zb0, h1]) (zg6 (clone27e _)) (fun v H hF => fun _ h => absurd h List.not_mem_nil) fun v H hF => ?_
   obtain ⟨e1, e2⟩ := hF
   subst e1 e2
   exact go _ ⟨_, _, _, _, { q with i4 := nx, s4 := ck }, rfl, ad (i := 4) (by decide) hni rfl (fun k hk hkj => by
    match k, hkj with
    | 0, _ | 1, _ | 2, _ | 3, _ | 5, _ | 6, _ | 7, _ | 8, _ | 9, _ | 10, _ | 11, _ | 12, _ | 15, _ => rfl
    | 13, _ => exact absurd (hP.c13 hk).1 hni
    | 14, _ => exact absurd (hP.c14 hk) fun h => hni (hP.c13 h).1
    | 4, h => exact absurd rfl h
    | k + 16, _ => rfl), hP.clone0 hni⟩
  ·refine zkp (i := 4) _ rfl rfl rfl (vs := [.vs (cUs s)]) (by simp only [zg8, zb0, h1]) (zg6 (clone27t s hne (by omega) _)) (fun v H hF => fun _ h => absurd h List.not_mem_nil) fun v H hF => ?_
   obtain ⟨e1, e2⟩ := hF
   subst e1 e2
   exact go _ ⟨_, _, _, _, { q with i4 := nx + 1, s4 := ck + 1 }, rfl, ad (i := 4) (by decide) hni rfl (fun k hk hkj => by
    match k, hkj with
    | 0, _ | 1, _ | 2, _ | 3, _ | 5, _ | 6, _ | 7, _ | 8, _ | 9, _ | 10, _ | 11, _ | 12, _ | 15, _ => rfl
    | 13, _ => exact absurd (hP.c13 hk).1 hni
    | 14, _ => exact absurd (hP.c14 hk) fun h => hni (hP.c13 h).1
    | 4, h => exact absurd rfl h
    | k + 16, _ => rfl), hP.clone hni⟩
 | 12, _, hni, hpre, go =>
  have h1 := pr 11 31 _ rfl (hpre 11 (by decide))
  exact zi9 (i := 12) rfl rfl (zpo (pl := [(0, cU (w &&& (1#64 <<< m - 1#64)))]) (by simp only [zgm, zb0, h1]; rfl) rfl) (go _ ⟨_, _, _, _, { q with i12 := nx, s12 := ck }, rfl, ad (i := 12) (by decide) hni rfl (fun k hk hkj => by
   match k, hkj with
   | 0, _ | 1, _ | 2, _ | 3, _ | 4, _ | 5, _ | 6, _ | 7, _ | 8, _ | 9, _ | 10, _ | 11, _ | 13, _ | 14, _ | 15, _ => rfl
   | 12, h => exact absurd rfl h
   | k + 16, _ => rfl), hP.slice hni⟩)
 | 13, _, hni, hpre, go =>
  have h1 := pr 4 24 _ rfl (hpre 4 (by decide))
  have h2 := pr 12 32 _ rfl (hpre 12 (by decide))
  have m4 := hP.h4 (hpre 4 (by decide)) hni
  have m12 := hP.h12 (hpre 12 (by decide))
  have ha := ziw (n := 107) (l := l) (hp := hp) (nx := nx) (ck := ck) (mk := []) (sz := 1) (bytes := 8) (z := [.int .u64 0]) (s := .t 24) (x := .t 32) [[cU (w &&& (1#64 <<< m - 1#64))]] h1 h2 (zdk (xs := [[cU (w &&& (1#64 <<< m - 1#64))]]) (ys := []) m12 rfl fun x hx => by obtain rfl := List.mem_singleton.1 hx; rfl) (Nat.succ_ne_zero 0) rfl (by decide) m4 (by rw [List.length_map, Nat.mul_one]) (by show s.length + 1 ≤ 1048576; omega)
  have e0 : (s ++ [w &&& (1#64 <<< m - 1#64)]).map cU = s.map cU ++ [[cU (w &&& (1#64 <<< m - 1#64))]].flatten := by rw [List.map_append]; rfl
  rw [← e0] at ha
  exact zi9 (i := 13) rfl rfl ha (go _ ⟨_, _, _, _, { q with s13 := ck }, rfl, ad (i := 13) (by decide) hni rfl (fun k hk hkj => by
   match k, hkj with
   | 0, _ | 1, _ | 2, _ | 3, _ | 4, _ | 5, _ | 6, _ | 7, _ | 8, _ | 9, _ | 10, _ | 11, _ | 12, _ | 15, _ => rfl
   | 14, _ => exact absurd (hP.c14 hk) hni
   | 13, h => exact absurd rfl h
   | k + 16, _ => rfl), hP.app (hpre 4 (by decide)) (hpre 12 (by decide)) hni⟩)
 | 15, _, hni, hpre, go =>
  exact zi9 (i := 15) rfl rfl zt8 (go _ ⟨_, _, _, _, { q with i15 := nx, s15 := ck }, rfl, ad (i := 15) (by decide) hni rfl (fun k hk hkj => by
   match k, hkj with
   | 0, _ | 1, _ | 2, _ | 3, _ | 4, _ | 5, _ | 6, _ | 7, _ | 8, _ | 9, _ | 10, _ | 11, _ | 12, _ | 13, _ | 14, _ => rfl
   | 15, h => exact absurd rfl h
   | k + 16, _ => rfl), hP.alloc hni⟩)
 | 16, _, hni, hpre, go =>
  have h1 := pr 15 5 _ rfl (hpre 15 (by decide))
  have h2 := pr 14 34 _ rfl (hpre 14 (by decide))
  have hL2 : Lk (zgw m s u) (dv6 m s u w q) (16 :: D) l := ⟨hL.1, fun q d v hq hm => by
   rcases List.mem_cons.1 hm with rfl | hm
   ·cases hq
   ·exact hL.2 q d v hq hm⟩
  exact af_op0 (i := 16) rfl (ztg (id := q.i15) (sp := q.s15) (off := 0) h1 h2 rfl rfl (hP.h15 (hpre 15 (by decide)) hni) rfl rfl) (go _ ⟨_, _, _, _, q, rfl, hL2, hP.sto (hpre 4 (by decide)) (hpre 12 (by decide)) (hpre 13 (by decide)) (hpre 15 (by decide))⟩)
 | j + 17, hj, _, _, _ => exact absurd hj (by omega)
theorem grow6 {w0 : World} {N0 : Nat} {k : List Fr} {Q : Exit → AS → Prop} {y : IC} (m : Nat) (hm : m ≤ 64) (s : List (BitVec 64)) (u : AV) (w : BitVec 64) (hu : zhj .u64 u = some (cU w)) (huM : hasM u = false) (hs : s.length ≤ 100)
  (fin : Zm Try.prog w0 N0 none y (st 107 [(5, .vptr [.int .i64 (m : Nat), .vs (cUs (s ++ [w &&& (1#64 <<< m - 1#64)]))]), (1, u), (2, .vptr [.int .i64 (m : Nat), .vs (cUs s)])] [] 0 1) k Q) :
  Zm Try.prog w0 N0 none (.region zr9 (some reg6p)) (st 107 (zgw m s u) [] 0 1) (.seq y :: k) Q := by
 refine z_any env0_ok.mix fun rd => zs3 (by decide) (Inv6 m s u w) (fun r D S j hI hj hni hpre go => step6 m hm s u w hu hs r D S j hI hj hni hpre go) (fun D S hI hall => Um.ok ?_) 17 [] _ ⟨_, _, _, _, ⟨0, 0, 0, 0, 0, 0, 0⟩, rfl, ⟨fun t v h => ?_, fun _ _ _ _ h => by cases h⟩, ⟨fun h => (by cases h), fun h => (by cases h), fun h => (by cases h), fun h => (by cases h), fun h => (by cases h), fun h => (by cases h), fun h => (by cases h), fun h => (by cases h), fun h => (by cases h), fun h => (by cases h), fun h => (by cases h), fun h => (by cases h), fun h => (by cases h), fun h => (by cases h)⟩⟩ rfl
 ·obtain ⟨l, hp, nx, ck, q, rfl, hL, hP⟩ := hI
  have h5 := hL.2 15 5 _ rfl (hall 15 (by decide))
  have b1 : zbh 1 l = some u := hL.1 _ _ (by unfold zgw; simp)
  have b2 : zbh 2 l = some (.vptr [.int .i64 (m : Nat), .vs (cUs s)]) := hL.1 _ _ (by unfold zgw; simp)
  have hk13 := hP.h13 (hall 13 (by decide))
  have hk16 := hP.h16 (hall 16 (by decide))
  have hne := hP.d1 (hall 4 (by decide)) (hall 15 (by decide))
  have hpm : hasM (.vptr [.int .i64 (m : Nat), .vs (cUs s)]) = false := rfl
  refine za4 ?_
  refine zdb [(some (q.i15, q.s15), [.int .i64 (m : Nat), .vs (cUs (s ++ [w &&& (1#64 <<< m - 1#64)]))])] [(q.i4, q.s13, (s ++ [w &&& (1#64 <<< m - 1#64)]).map cU)] [(5, .mptr 0 0 0), (1, u), (2, .vptr [.int .i64 (m : Nat), .vs (cUs s)])] ?_ (.cons hk13 (zmu _) .nil) (.cons hk16 (.cons (.same rfl) (.cons ?_ .nil)) .nil) (.cons h5 (.mptr rfl) (.cons b1 (.same huM) (.cons b2 (.same rfl) .nil))) ?_
  ·show (!memN q.i15 [q.i4] && true) = true
   have : memN q.i15 [q.i4] = false := by
    cases hb : memN q.i15 [q.i4] with
    | false => rfl
    | true => exact absurd (List.mem_singleton.1 (zlj.1 hb)) fun e => hne e.symm
   rw [this]
   rfl
  ·have := RenW.fms1 (live := [(some (q.i15, q.s15), [AV.int .i64 (m : Nat), .vs (cUs (s ++ [w &&& (1#64 <<< m - 1#64)]))])]) (fz := [(q.i4, q.s13, (s ++ [w &&& (1#64 <<< m - 1#64)]).map cU)]) (id := q.i4) (sp := q.s13) (len := s.length + 1) (cap := none) (vs := (s ++ [w &&& (1#64 <<< m - 1#64)]).map cU) (by rw [fzl, Nat.beq_refl, Nat.beq_refl]; rfl) (by rw [List.length_map, List.length_append]; rfl)
   rw [List.map_map] at this
   exact this
  refine zdb [] [(0, 0, [.int .i64 (m : Nat), .vs (cUs (s ++ [w &&& (1#64 <<< m - 1#64)]))])] [(5, .vptr [.int .i64 (m : Nat), .vs (cUs (s ++ [w &&& (1#64 <<< m - 1#64)]))]), (1, u), (2, .vptr [.int .i64 (m : Nat), .vs (cUs s)])] rfl (.cons rfl rfl .nil) .nil (.cons rfl (.fptr rfl rfl) (.cons rfl (.same huM) (.cons rfl (.same rfl) .nil))) fin
 ·unfold zgw at *
  simp only [List.mem_cons, Prod.mk.injEq, List.not_mem_nil, or_false] at h
  rcases h with ⟨rfl, rfl⟩ | ⟨rfl, rfl⟩ <;> rfl
end Go.Proofs.Ytknomkcdpcnmaaa
