/-
  THE REGION THAT STRIKES A SET.
-/
import Derived.Test.YtknomkcdpcnmaaaJRM
namespace Go.Proofs.Ytknomkcdpcnmaaa
open Go Go.Am
def zku : List Opr := [⟨(some 51), .faddr 0 (.t 1), none⟩, ⟨(some 52), .load none (.t 51), none⟩, ⟨(some 53), .faddr 1 (.t 1), none⟩, ⟨(some 54), .load none (.t 53), none⟩, ⟨(some 55), .call (.c (.fn 27 [] [])) [(.t 54)], none⟩, ⟨(some 56), .mov (.t 7), none⟩, ⟨(some 57), .mov (.t 7), none⟩, ⟨(some 58), .bin .add (.t 57) (.c (.int .i64 1)), none⟩, ⟨(some 59), .call (.c (.fn 39 [] [])) [(.t 55), (.t 56), (.t 58)], none⟩, ⟨(some 60), .build [.int .i64 0, .nils] [(0, 1, (.t 52)), (1, 1, (.t 59))], none⟩, ⟨(some 8), .alloc [.int .i64 0, .nils], none⟩, ⟨none, .store 2 (.t 8) (.t 60), none⟩]
def reg10p : List (List Nat) := [[], [0], [], [2], [3], [], [], [6], [4, 5, 7, 4], [1, 8], [], [10, 9, 8, 0, 1, 2, 3, 4, 5, 6, 7, 8, 9, 10]]
def t10 (n : Int) (s : List (BitVec 64)) (a c : List Int) (i : Nat) : List (Nat × AV) := [(1, .vptr [.int .i64 n, .vs (cUs s)]), (3, vsI a), (5, vsI c), (6, .int .i64 0), (47, .int .i64 (s.length : Nat)), (48, .int .i64 (i : Nat))]
def dv10 (n : Int) (s : List (BitVec 64)) (i : Nat) (m5 m8 : AV) : Nat → Option (Nat × AV)
 | 0 => some (51, .vptr [.int .i64 n, .vs (cUs s)])
 | 1 => some (52, .int .i64 n)
 | 2 => some (53, .vptr [.vs (cUs s)])
 | 3 => some (54, .vs (cUs s))
 | 4 => some (55, m5)
 | 5 => some (56, .int .i64 (i : Nat))
 | 6 => some (57, .int .i64 (i : Nat))
 | 7 => some (58, .int .i64 ((i + 1 : Nat) : Int))
 | 8 => some (59, .vs (cUs (s.eraseIdx i)))
 | 9 => some (60, .agg [.int .i64 n, .vs (cUs (s.eraseIdx i))])
 | 10 => some (8, m8)
 | _ => none
def zsg : Nat → Nat
 | 10 => 8
 | j => 51 + j
theorem zkc {n : Int} {s : List (BitVec 64)} {i : Nat} {m5 m8 : AV} : ∀ {j e : Nat} {w : AV}, dv10 n s i m5 m8 j = some (e, w) → e = zsg j ∧ j < 11
 | 0, _, _, h | 1, _, _, h | 2, _, _, h | 3, _, _, h | 4, _, _, h | 5, _, _, h | 6, _, _, h | 7, _, _, h | 8, _, _, h | 9, _, _, h | 10, _, _, h => by
  injection h with h
  injection h with h1 h2
  exact ⟨h1.symm, by decide⟩
 | j + 11, _, _, h => by cases h
theorem zrj {i j : Nat} (hi : i < 11) (hj : j < 11) (h : j ≠ i) : zsg i ≠ zsg j := by
 have : ∀ a < 11, ∀ b < 11, b ≠ a → zsg a ≠ zsg b := by decide
 exact this i hi j hj h
inductive Ph10 (n : Int) (s t : List (BitVec 64)) : Bool → Bool → Bool → Bool → List (Nat × Nat × AObj) → Nat → Nat → AV → AV → Prop where
 | p0 (m5 m8) : Ph10 n s t false false false false [] 0 1 m5 m8
 | pA (m5) : Ph10 n s t false false true false [(0, 1, .cells [.int .i64 0, .nils])] 1 2 m5 (.mptr 0 1 0)
 | pC (m8) : Ph10 n s t true false false false [(1, 2, .cells (s.map cU)), (0, 1, .cells [])] 2 3 (.ms 1 2 1 0 s.length none) m8
 | pAC : Ph10 n s t true false true false [(2, 3, .cells (s.map cU)), (1, 2, .cells []), (0, 1, .cells [.int .i64 0, .nils])] 3 4 (.ms 2 3 1 0 s.length none) (.mptr 0 1 0)
 | pCA : Ph10 n s t true false true false [(2, 3, .cells [.int .i64 0, .nils]), (1, 2, .cells (s.map cU)), (0, 1, .cells [])] 3 4 (.ms 1 2 1 0 s.length none) (.mptr 2 3 0)
 | pCD (m5 m8) : Ph10 n s t true true false false [(0, 1, .cells [])] 2 3 m5 m8
 | pACD (m5) : Ph10 n s t true true true false [(1, 2, .cells []), (0, 1, .cells [.int .i64 0, .nils])] 3 4 m5 (.mptr 0 1 0)
 | pCAD (m5) : Ph10 n s t true true true false [(2, 3, .cells [.int .i64 0, .nils]), (0, 1, .cells [])] 3 4 m5 (.mptr 2 3 0)
 | pF (m5) : Ph10 n s t true true true true [(1, 2, .cells []), (0, 1, .cells [.int .i64 n, .vs (cUs t)])] 3 4 m5 (.mptr 0 1 0)
 | pG (m5) : Ph10 n s t true true true true [(2, 3, .cells [.int .i64 n, .vs (cUs t)]), (0, 1, .cells [])] 3 4 m5 (.mptr 2 3 0)
theorem zco {i j : Nat} {D : List Nat} (h : j ≠ i) : (i :: D).contains j = D.contains j := by simp [h]
theorem zis {i : Nat} {D : List Nat} : (i :: D).contains i = true := by simp
def Inv10 (n : Int) (s : List (BitVec 64)) (a c : List Int) (i : Nat) (D : List Nat) (S : AS) : Prop :=
 ∃ l hp nx ck m5 m8, S = st 89 l hp nx ck ∧ Lk ((7, .int .i64 (i : Nat)) :: t10 n s a c i) (dv10 n s i m5 m8) D l ∧ Ph10 n s (s.eraseIdx i) (D.contains 4) (D.contains 8) (D.contains 10) (D.contains 11) hp nx ck m5 m8
theorem base10 {n : Int} {s : List (BitVec 64)} {a c : List Int} {i t : Nat} {v : AV} (h : (t, v) ∈ (7, AV.int .i64 (i : Nat)) :: t10 n s a c i) : t < 8 ∨ t = 47 ∨ t = 48 := by
 unfold t10 at h
 simp only [List.mem_cons, Prod.mk.injEq, List.not_mem_nil, or_false] at h
 omega
theorem zh9 {n : Int} {s : List (BitVec 64)} {a c : List Int} {i j : Nat} (hj : j < 11) : ∀ t v, (t, v) ∈ (7, AV.int .i64 (i : Nat)) :: t10 n s a c i → zsg j ≠ t := fun t v h => by
 have h1 := base10 h
 have : ∀ k < 11, 8 ≤ zsg k ∧ zsg k ≠ 47 ∧ zsg k ≠ 48 := by decide
 have := this j hj
 omega
theorem zhv {n : Int} {s : List (BitVec 64)} {a c : List Int} {i : Nat} {P : Program} {w0 : World} {N0 : Nat} {rd : Option (Nat × Nat)} {K : AS → Prop} {m : Nat} {D : List Nat} {l : List (Nat × AV)} {hp : List (Nat × Nat × AObj)} {nx ck : Nat} {m5 m8 v : AV} {op : IOp} (j : Nat) (hj : j < 11) (h4 : 4 ≠ j) (h8 : 8 ≠ j) (h10 : 10 ≠ j)
  (hL : Lk ((7, .int .i64 (i : Nat)) :: t10 n s a c i) (dv10 n s i m5 m8) D l) (hP : Ph10 n s (s.eraseIdx i) (D.contains 4) (D.contains 8) (D.contains 10) (D.contains 11) hp nx ck m5 m8) (hni : j ∉ D)
  (hv : dv10 n s i m5 m8 j = some (zsg j, v)) (hio : zku[j]? = some ⟨some (zsg j), op, none⟩) (hok : zcq 89 (some (zsg j)) = true) (hi : iop (st 89 l hp nx ck) op = some (v, st 89 l hp nx ck))
  (go : ∀ S', Inv10 n s a c i (j :: D) S' → AnyF P w0 N0 rd zku reg10p m (j :: D) S' K) : StF P w0 N0 rd zku reg10p m D (st 89 l hp nx ck) K j :=
 zl5 hio hok hi (go _ ⟨_, _, _, _, m5, m8, rfl, hL.add hv (zh9 hj) (fun _ _ _ => rfl) (fun q e w hq he => by
  obtain ⟨e1, e2⟩ := zkc he
  rw [e1]
  exact zrj hj e2 hq) hni, by rw [zco h4, zco h8, zco h10, zco (by omega)]; exact hP⟩)
set_option maxHeartbeats 2000000 in
theorem step10 {w0 : World} {N0 : Nat} {rd : Option (Nat × Nat)} {K : AS → Prop} (n : Int) (s : List (BitVec 64)) (a c : List Int) (i : Nat) (hs : s.length ≤ 100) (hi : i < s.length) (m : Nat) (D : List Nat) (S : AS) (j : Nat) (hI : Inv10 n s a c i D S) (hj : j < 12) (hni : j ∉ D) (hpre : ∀ p ∈ reg10p.getD j [], p ∈ D)
  (go : ∀ S', Inv10 n s a c i (j :: D) S' → AnyF Try.prog w0 N0 rd zku reg10p m (j :: D) S' K) : StF Try.prog w0 N0 rd zku reg10p m D S K j := by
 obtain ⟨l, hp, nx, ck, m5, m8, rfl, hL, hP⟩ := hI
 have b1 : zc6 1 l = some (.vptr [.int .i64 n, .vs (cUs s)]) := hL.1 _ _ (by unfold t10; simp)
 have b7 : zc6 7 l = some (.int .i64 (i : Nat)) := hL.1 _ _ (by simp)
 have w1 : IntKind.wrap .i64 (((i : Nat) : Int) + 1) = ((i + 1 : Nat) : Int) := zbs i (by omega)
 have hne : s ≠ [] := fun e => by rw [e] at hi; exact absurd hi (Nat.not_lt_zero _)
 have pr : ∀ q d v, dv10 n s i m5 m8 q = some (d, v) → q ∈ D → zc6 d l = some v := hL.2
 match j, hj, hni, hpre, go with
 | 0, _, hni, hpre, go => exact zhv 0 (by decide) (by decide) (by decide) (by decide) hL hP hni rfl rfl rfl (zlj b1 rfl rfl) go
 | 1, _, hni, hpre, go => exact zhv 1 (by decide) (by decide) (by decide) (by decide) hL hP hni rfl rfl rfl (zq7 (pr 0 51 _ rfl (hpre 0 (by decide))) rfl) go
 | 2, _, hni, hpre, go => exact zhv 2 (by decide) (by decide) (by decide) (by decide) hL hP hni rfl rfl rfl (zlj b1 rfl rfl) go
 | 3, _, hni, hpre, go => exact zhv 3 (by decide) (by decide) (by decide) (by decide) hL hP hni rfl rfl rfl (zq7 (pr 2 53 _ rfl (hpre 2 (by decide))) rfl) go
 | 5, _, hni, hpre, go => exact zhv 5 (by decide) (by decide) (by decide) (by decide) hL hP hni rfl rfl rfl (zuc b7) go
 | 6, _, hni, hpre, go => exact zhv 6 (by decide) (by decide) (by decide) (by decide) hL hP hni rfl rfl rfl (zuc b7) go
 | 7, _, hni, hpre, go =>
  have hx : zbu (.t 57) l = some (.int .i64 (i : Nat)) := pr 6 57 _ rfl (hpre 6 (by decide))
  have hy : zbu (.c (.int .i64 1)) l = some (.int .i64 1) := rfl
  have hb : Am.binOp .add (.int .i64 (i : Nat)) (.int .i64 1) = some (.int .i64 ((i + 1 : Nat) : Int)) := by rw [← w1]; rfl
  have hz : iop (st 89 l hp nx ck) (.bin .add (.t 57) (.c (.int .i64 1))) = some (.int .i64 ((i + 1 : Nat) : Int), st 89 l hp nx ck) := by
   simp only [iop, zbb, hx, hy, hb]
   rfl
  exact zhv 7 (by decide) (by decide) (by decide) (by decide) hL hP hni rfl rfl rfl hz go
 | 9, _, hni, hpre, go =>
  have h1 := pr 1 52 _ rfl (hpre 1 (by decide))
  have h2 := pr 8 59 _ rfl (hpre 8 (by decide))
  exact zhv 9 (by decide) (by decide) (by decide) (by decide) hL hP hni rfl rfl rfl (zu5 (pl := [(0, .int .i64 n), (1, .vs (cUs (s.eraseIdx i)))]) (by simp only [zhu, zbu, h1, h2, AV.cells?]; rfl) rfl) go
 | 4, _, hni, hpre, go =>
  have h1 := pr 3 54 _ rfl (hpre 3 (by decide))
  have e4 : D.contains 4 = false := by simpa using hni
  rw [e4] at hP
  refine zii (i := 4) _ rfl rfl rfl (vs := [.vs (cUs s)]) (by simp only [zfy, zbu, h1]) (zet (clone27t s hne (by omega) _)) (fun v H hF => fun _ h => absurd h List.not_mem_nil) fun v H hF => ?_
  obtain ⟨e1, e2⟩ := hF
  subst e1 e2
  have hL2 := hL.add (i := 4) (dv' := dv10 n s i (.ms (nx + 1) (ck + 1) 1 0 s.length none) m8) rfl (zh9 (j := 4) (by decide)) (fun q hq hq4 => by
   match q, hq4 with
   | 0, _ | 1, _ | 2, _ | 3, _ | 5, _ | 6, _ | 7, _ | 8, _ | 9, _ | 10, _ => rfl
   | 4, h => exact absurd rfl h
   | q + 11, _ => rfl) (fun q e w hq he => by
   obtain ⟨e1, e2⟩ := zkc he
   rw [e1]
   exact zrj (i := 4) (by decide) e2 hq) hni
  refine go _ ⟨_, _, _, _, _, m8, rfl, hL2, ?_⟩
  rw [zis, zco (by decide), zco (by decide), zco (by decide)]
  generalize D.contains 8 = b8 at *
  generalize D.contains 10 = b10 at *
  generalize D.contains 11 = b11 at *
  cases hP with
  | p0 => exact .pC _
  | pA => exact .pAC
 | 8, _, hni, hpre, go =>
  have h5 := pr 4 55 _ rfl (hpre 4 (by decide))
  have h6 := pr 5 56 _ rfl (hpre 5 (by decide))
  have h7 := pr 7 58 _ rfl (hpre 7 (by decide))
  have e4 : D.contains 4 = true := List.contains_iff_mem.2 (hpre 4 (by decide))
  have e8 : D.contains 8 = false := by simpa using hni
  generalize e10 : D.contains 10 = b10 at hP
  generalize e11 : D.contains 11 = b11 at hP
  rw [e4, e8] at hP
  cases hP with
  | pC =>
   refine zii (i := 8) _ rfl rfl rfl (vs := [.ms 1 2 1 0 s.length none, .int .i64 (i : Nat), .int .i64 ((i + 1 : Nat) : Int)]) (by simp only [zfy, zbu, h5, h6, h7]) (zet (zit (id := 1) (sp := 2) s (by omega) i hi _ rfl)) (fun v H hF => fun _ h => absurd h List.not_mem_nil) fun v H hF => ?_
   obtain ⟨e1, e2⟩ := hF
   subst e1 e2
   refine go _ ⟨_, _, _, _, _, _, rfl, hL.add (i := 8) rfl (zh9 (j := 8) (by decide)) (fun _ _ _ => rfl) (fun q e w hq he => by
    obtain ⟨e1, e2⟩ := zkc he
    rw [e1]
    exact zrj (i := 8) (by decide) e2 hq) hni, ?_⟩
   rw [zco (by decide), zis, zco (by decide), zco (by decide), e4, e10, e11]
   exact .pCD _ _
  | pAC =>
   refine zii (i := 8) _ rfl rfl rfl (vs := [.ms 2 3 1 0 s.length none, .int .i64 (i : Nat), .int .i64 ((i + 1 : Nat) : Int)]) (by simp only [zfy, zbu, h5, h6, h7]) (zet (zit (id := 2) (sp := 3) s (by omega) i hi _ rfl)) (fun v H hF => fun _ h => absurd h List.not_mem_nil) fun v H hF => ?_
   obtain ⟨e1, e2⟩ := hF
   subst e1 e2
   refine go _ ⟨_, _, _, _, _, _, rfl, hL.add (i := 8) rfl (zh9 (j := 8) (by decide)) (fun _ _ _ => rfl) (fun q e w hq he => by
    obtain ⟨e1, e2⟩ := zkc he
    rw [e1]
    exact zrj (i := 8) (by decide) e2 hq) hni, ?_⟩
   rw [zco (by decide), zis, zco (by decide), zco (by decide), e4, e10, e11]
   exact .pACD _
  | pCA =>
   refine zii (i := 8) _ rfl rfl rfl (vs := [.ms 1 2 1 0 s.length none, .int .i64 (i : Nat), .int .i64 ((i + 1 : Nat) : Int)]) (by simp only [zfy, zbu, h5, h6, h7]) (zet (zit (id := 1) (sp := 2) s (by omega) i hi _ rfl)) (fun v H hF => fun _ h => absurd h List.not_mem_nil) fun v H hF => ?_
   obtain ⟨e1, e2⟩ := hF
   subst e1 e2
   refine go _ ⟨_, _, _, _, _, _, rfl, hL.add (i := 8) rfl (zh9 (j := 8) (by decide)) (fun _ _ _ => rfl) (fun q e w hq he => by
    obtain ⟨e1, e2⟩ := zkc he
    rw [e1]
    exact zrj (i := 8) (by decide) e2 hq) hni, ?_⟩
   rw [zco (by decide), zis, zco (by decide), zco (by decide), e4, e10, e11]
   exact .pCAD _
 | 10, _, hni, hpre, go =>
  have e10 : D.contains 10 = false := by simpa using hni
  rw [e10] at hP
  refine zl5 (i := 10) rfl rfl zu4 (go _ ⟨_, _, _, _, m5, .mptr nx ck 0, rfl, hL.add (i := 10) (dv' := dv10 n s i m5 (.mptr nx ck 0)) rfl (zh9 (j := 10) (by decide)) (fun q hq hq4 => by
   match q, hq4 with
   | 0, _ | 1, _ | 2, _ | 3, _ | 4, _ | 5, _ | 6, _ | 7, _ | 8, _ | 9, _ => rfl
   | 10, h => exact absurd rfl h
   | q + 11, _ => rfl) (fun q e w hq he => by
   obtain ⟨e1, e2⟩ := zkc he
   rw [e1]
   exact zrj (i := 10) (by decide) e2 hq) hni, ?_⟩)
  rw [zis, zco (by decide), zco (by decide), zco (by decide)]
  generalize D.contains 4 = b4 at *
  generalize D.contains 8 = b8 at *
  generalize D.contains 11 = b11 at *
  cases hP with
  | p0 => exact .pA _
  | pC => exact .pCA
  | pCD => exact .pCAD _
 | 11, _, hni, hpre, go =>
  have h8 := pr 10 8 _ rfl (hpre 10 (by decide))
  have h9 := pr 9 60 _ rfl (hpre 9 (by decide))
  have e4 : D.contains 4 = true := List.contains_iff_mem.2 (hpre 4 (by decide))
  have e8 : D.contains 8 = true := List.contains_iff_mem.2 (hpre 8 (by decide))
  have e10 : D.contains 10 = true := List.contains_iff_mem.2 (hpre 10 (by decide))
  have e11 : D.contains 11 = false := by simpa using hni
  have hL2 : Lk ((7, .int .i64 (i : Nat)) :: t10 n s a c i) (dv10 n s i m5 m8) (11 :: D) l := ⟨hL.1, fun q d v hq hm => by
   rcases List.mem_cons.1 hm with rfl | hm
   ·cases hq
   ·exact hL.2 q d v hq hm⟩
  rw [e4, e8, e10, e11] at hP
  cases hP with
  | pACD =>
   exact af_op0 (i := 11) rfl (zod (id := 0) (sp := 1) (off := 0) h8 h9 rfl rfl rfl rfl rfl) (go _ ⟨_, _, _, _, _, _, rfl, hL2, by
    rw [zco (by decide), zco (by decide), zco (by decide), zis, e4, e8, e10]
    exact .pF _⟩)
  | pCAD =>
   exact af_op0 (i := 11) rfl (zod (id := 2) (sp := 3) (off := 0) h8 h9 rfl rfl rfl rfl rfl) (go _ ⟨_, _, _, _, _, _, rfl, hL2, by
    rw [zco (by decide), zco (by decide), zco (by decide), zis, e4, e8, e10]
    exact .pG _⟩)
 | j + 12, hj, _, _, _ => exact absurd hj (by omega)
theorem strike10 {w0 : World} {N0 : Nat} {k : List Fr} {Q : Exit → AS → Prop} {y : IC} (n : Int) (s : List (BitVec 64)) (a c : List Int) (i : Nat) (hs : s.length ≤ 100) (hi : i < s.length)
  (fin : Zm Try.prog w0 N0 none y (st 89 ((8, .vptr [.int .i64 n, .vs (cUs (s.eraseIdx i))]) :: (7, .int .i64 (i : Nat)) :: t10 n s a c i) [] 0 1) k Q) :
  Zm Try.prog w0 N0 none (.region zku (some reg10p)) (st 89 ((7, .int .i64 (i : Nat)) :: t10 n s a c i) [] 0 1) (.seq y :: k) Q := by
 refine z_any env0_ok.mix fun rd => zsx (by decide) (Inv10 n s a c i) (fun m D S j hI hj hni hpre go => step10 n s a c i hs hi m D S j hI hj hni hpre go) (fun D S hI hall => Um.ok ?_) 12 [] _ ⟨_, _, _, _, .nils, .nils, rfl, ⟨fun t v h => ?_, fun _ _ _ _ h => by cases h⟩, .p0 _ _⟩ rfl
 ·obtain ⟨l, hp, nx, ck, m5, m8, rfl, hL, hP⟩ := hI
  rw [List.contains_iff_mem.2 (hall 4 (by decide)), List.contains_iff_mem.2 (hall 8 (by decide)), List.contains_iff_mem.2 (hall 10 (by decide)), List.contains_iff_mem.2 (hall 11 (by decide))] at hP
  have h8 := hL.2 10 8 _ rfl (hall 10 (by decide))
  have b : ∀ t v, (t, v) ∈ (7, AV.int .i64 (i : Nat)) :: t10 n s a c i → zc6 t l = some v := hL.1
  refine za6 ?_
  unfold t10 at *
  cases hP with
  | pF => exact zdm [] [(0, 1, [.int .i64 n, .vs (cUs (s.eraseIdx i))])] _ rfl (.cons rfl rfl .nil) .nil (.cons h8 (.fptr rfl rfl) (.cons (b _ _ (by simp)) (.same rfl) (.cons (b _ _ (by simp)) (.same rfl) (.cons (b _ _ (by simp)) (.same rfl) (.cons (b _ _ (by simp)) (.same rfl) (.cons (b _ _ (by simp)) (.same rfl) (.cons (b _ _ (by simp)) (.same rfl) (.cons (b _ _ (by simp)) (.same rfl) .nil)))))))) fin
  | pG => exact zdm [] [(2, 3, [.int .i64 n, .vs (cUs (s.eraseIdx i))])] _ rfl (.cons rfl rfl .nil) .nil (.cons h8 (.fptr rfl rfl) (.cons (b _ _ (by simp)) (.same rfl) (.cons (b _ _ (by simp)) (.same rfl) (.cons (b _ _ (by simp)) (.same rfl) (.cons (b _ _ (by simp)) (.same rfl) (.cons (b _ _ (by simp)) (.same rfl) (.cons (b _ _ (by simp)) (.same rfl) (.cons (b _ _ (by simp)) (.same rfl) .nil)))))))) fin
 ·unfold t10 at *
  simp only [List.mem_cons, Prod.mk.injEq, List.not_mem_nil, or_false] at h
  rcases h with ⟨rfl, rfl⟩ | ⟨rfl, rfl⟩ | ⟨rfl, rfl⟩ | ⟨rfl, rfl⟩ | ⟨rfl, rfl⟩ | ⟨rfl, rfl⟩ | ⟨rfl, rfl⟩ <;> rfl
end Go.Proofs.Ytknomkcdpcnmaaa
