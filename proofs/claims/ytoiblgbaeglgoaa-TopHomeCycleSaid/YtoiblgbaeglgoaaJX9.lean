/-
  THE GUARD OF caseHomes: a region with three closures, two lists and a box, in all its orders.; caseHomes: the known values.; THE ENDS ALONG A SEQUENCE: sequence.along.; THE ENDS BEFORE A STEP: sequence.Ends.; A HOMING BACKWARDS, AND THE HOMING: the plain law of TopHomeCycle.; OPPOSITE STROKES; IS A STROKE OF AN ACTUATOR IN A LIST; EQUAL ENDS; the range over a list backwards.; THE SEQUENCE THAT IS 
-/
import Derived.Test.YtoiblgbaeglgoaaJX8
namespace Go.Proofs.Ytoiblgbaeglgoaa
open Go Go.Am
def zik : List Opr := [oT 11 2,
  oM 12 (.call (.t 11) [(.c (.int .i64 0))]),
  oT 13 2,
  oM 14 (.call (.t 13) [(.c (.int .i64 1))]),
  oN 15 1,
  oM 16 (.call (.t 15) [(.c (.int .i64 2))]),
  oM 17 (.bslice 3 3 [.int .i64 0, .int .i64 0, .nils, .int .i64 0, .int .i64 0, .nils, .int .i64 0, .int .i64 0, .nils] [(0, 3, (.t 12)), (3, 3, (.t 14)), (6, 3, (.t 16))]),
  oM 18 (.build [.int .i64 0, .int .i64 0, .nils] [(0, 1, (.c (.int .i64 3))), (2, 1, (.t 17))]),
  oM 19 (.bslice 3 1 [.int .i64 0, .int .i64 0, .nils] [(0, 3, (.t 18))]),
  oM 20 (.build [.nils] [(0, 1, (.t 19))]),
  oM 3 (.alloc [.nils]),
  ⟨none, .store 1 (.t 3) (.t 20), none⟩]
def reg63p : List (List Nat) := [[], [0], [], [2, 1], [], [4, 3], [1, 3, 5], [6], [7], [8], [], [10, 9, 5, 0, 1, 2, 3, 4, 5, 6, 7, 8, 9, 10]]
def n63 (i : Int) : Ex := .nd 2 0 [.nd 1 i []]
def x63 : Ex := .nd 3 0 [n63 0, n63 1, .nd 1 2 []]
def f112 : AV := .fn 112 [] []
def f113 : AV := .fn 113 [] [.vptr [.fn 112 [] []]]
def t63 : List (Nat × AV) := [(2, f113), (1, .vptr [f112]), (0, .bool false)]
def zw2 (m6 m8 m10 : AV) : Nat → Option (Nat × AV)
 | 0 => some (11, f113)
 | 1 => some (12, .agg (cX (n63 0)))
 | 2 => some (13, f113)
 | 3 => some (14, .agg (cX (n63 1)))
 | 4 => some (15, f112)
 | 5 => some (16, .agg (cX (.nd 1 2 [])))
 | 6 => some (17, m6)
 | 7 => some (18, .agg [.int .i64 3, .int .i64 0, m6])
 | 8 => some (19, m8)
 | 9 => some (20, .agg [m8])
 | 10 => some (3, m10)
 | _ => none
def zti : Nat → Nat
 | 10 => 3
 | j => 11 + j
theorem dv63_dst {m6 m8 m10 : AV} : ∀ {j e : Nat} {w : AV}, zw2 m6 m8 m10 j = some (e, w) → e = zti j ∧ j < 11
 | 0, _, _, h | 1, _, _, h | 2, _, _, h | 3, _, _, h | 4, _, _, h | 5, _, _, h | 6, _, _, h | 7, _, _, h | 8, _, _, h | 9, _, _, h | 10, _, _, h => by
  injection h with h
  injection h with h1 h2
  exact ⟨h1.symm, by decide⟩
 | j + 11, _, _, h => by cases h
theorem dd63_ne {i j : Nat} (hi : i < 11) (hj : j < 11) (h : j ≠ i) : zti i ≠ zti j := by
 have : ∀ a < 11, ∀ b < 11, b ≠ a → zti a ≠ zti b := by decide
 exact this i hi j hj h
def C9 : List AV := cX (n63 0) ++ cX (n63 1) ++ cX (.nd 1 2 [])
def C3 (i s : Nat) : List AV := [.int .i64 3, .int .i64 0, .ms i s 3 0 3 (some 3)]
def ms3 (i s : Nat) : AV := .ms i s 3 0 3 (some 3)
def ms1 (i s : Nat) : AV := .ms i s 3 0 1 (some 1)
inductive Ph63 : Bool → Bool → Bool → Bool → List (Nat × Nat × AObj) → Nat → Nat → AV → AV → AV → Prop where
 | p0 (m6 m8 m10) : Ph63 false false false false [] 0 1 m6 m8 m10
 | pA (m6 m8) : Ph63 false false true false [(0, 1, .cells [.nils])] 1 2 m6 m8 (.mptr 0 1 0)
 | p6 (m8 m10) : Ph63 true false false false [(0, 1, .cells C9)] 1 2 (ms3 0 1) m8 m10
 | pA6 (m8) : Ph63 true false true false [(1, 2, .cells C9), (0, 1, .cells [.nils])] 2 3 (ms3 1 2) m8 (.mptr 0 1 0)
 | p6A (m8) : Ph63 true false true false [(1, 2, .cells [.nils]), (0, 1, .cells C9)] 2 3 (ms3 0 1) m8 (.mptr 1 2 0)
 | p68 (m10) : Ph63 true true false false [(1, 2, .cells (C3 0 1)), (0, 1, .cells C9)] 2 3 (ms3 0 1) (ms1 1 2) m10
 | pA68 : Ph63 true true true false [(2, 3, .cells (C3 1 2)), (1, 2, .cells C9), (0, 1, .cells [.nils])] 3 4 (ms3 1 2) (ms1 2 3) (.mptr 0 1 0)
 | p6A8 : Ph63 true true true false [(2, 3, .cells (C3 0 1)), (1, 2, .cells [.nils]), (0, 1, .cells C9)] 3 4 (ms3 0 1) (ms1 2 3) (.mptr 1 2 0)
 | p68A : Ph63 true true true false [(2, 3, .cells [.nils]), (1, 2, .cells (C3 0 1)), (0, 1, .cells C9)] 3 4 (ms3 0 1) (ms1 1 2) (.mptr 2 3 0)
 | qA68 : Ph63 true true true true [(2, 3, .cells (C3 1 2)), (1, 2, .cells C9), (0, 1, .cells [ms1 2 3])] 3 4 (ms3 1 2) (ms1 2 3) (.mptr 0 1 0)
 | q6A8 : Ph63 true true true true [(2, 3, .cells (C3 0 1)), (1, 2, .cells [ms1 2 3]), (0, 1, .cells C9)] 3 4 (ms3 0 1) (ms1 2 3) (.mptr 1 2 0)
 | q68A : Ph63 true true true true [(2, 3, .cells [ms1 1 2]), (1, 2, .cells (C3 0 1)), (0, 1, .cells C9)] 3 4 (ms3 0 1) (ms1 1 2) (.mptr 2 3 0)
theorem zcs {i j : Nat} {D : List Nat} (h : j ≠ i) : (i :: D).contains j = D.contains j := by simp [h]
theorem zmj {i : Nat} {D : List Nat} : (i :: D).contains i = true := by simp
def Cl63 (D : List Nat) : Prop := ∀ q ∈ D, ∀ p ∈ reg63p.getD q [], p ∈ D
theorem Cl63.add {D : List Nat} {j : Nat} (h : Cl63 D) (hpre : ∀ p ∈ reg63p.getD j [], p ∈ D) : Cl63 (j :: D) := fun q hq p hp => by
 rcases y0m.1 hq with rfl | hq
 ·exact y04 _ (hpre p hp)
 ·exact y04 _ (h q hq p hp)
def zwa (D : List Nat) (S : AS) : Prop :=
 ∃ l hp nx ck m6 m8 m10, S = st 51 l hp nx ck ∧ Lk t63 (zw2 m6 m8 m10) D l ∧ Cl63 D ∧ Ph63 (D.contains 6) (D.contains 8) (D.contains 10) (D.contains 11) hp nx ck m6 m8 m10
theorem zgg {j : Nat} (hj : j < 11) : ∀ t v, (t, v) ∈ t63 → zti j ≠ t := fun t v h => by
 unfold t63 at h
 simp only [y0m, y0a, y0d, or_false] at h
 have : ∀ k < 11, 3 ≤ zti k := by decide
 have := this j hj
 omega
theorem dn63 {m6 m8 m10 : AV} {j : Nat} (hj : j < 11) : ∀ (q e : Nat) (w : AV), q ≠ j → zw2 m6 m8 m10 q = some (e, w) → zti j ≠ e := fun q e w hq he => by
 obtain ⟨e1, e2⟩ := dv63_dst he
 rw [e1]
 exact dd63_ne hj e2 hq
theorem zqk {P : Program} {w0 : World} {N0 : Nat} {rd : Option (Nat × Nat)} {K : AS → Prop} {m : Nat} {D : List Nat} {l : List (Nat × AV)} {hp : List (Nat × Nat × AObj)} {nx ck : Nat} {m6 m8 m10 v : AV} {op : IOp} (j : Nat) (hj : j < 11) (h6 : 6 ≠ j) (h8 : 8 ≠ j) (h10 : 10 ≠ j)
  (hL : Lk t63 (zw2 m6 m8 m10) D l) (hD : Cl63 D) (hpre : ∀ p ∈ reg63p.getD j [], p ∈ D) (hP : Ph63 (D.contains 6) (D.contains 8) (D.contains 10) (D.contains 11) hp nx ck m6 m8 m10) (hni : j ∉ D)
  (hv : zw2 m6 m8 m10 j = some (zti j, v)) (hio : zik[j]? = some ⟨some (zti j), op, none⟩) (hok : zcj 51 (some (zti j)) = true) (hi : iop (st 51 l hp nx ck) op = some (v, st 51 l hp nx ck))
  (go : ∀ S', zwa (j :: D) S' → AnyF P w0 N0 rd zik reg63p m (j :: D) S' K) : StF P w0 N0 rd zik reg63p m D (st 51 l hp nx ck) K j :=
 af_op hio hok hi (go _ ⟨_, _, _, _, m6, m8, m10, rfl, hL.add hv (zgg hj) (fun _ _ _ => rfl) (dn63 hj) hni, hD.add hpre, by rw [zcs h6, zcs h8, zcs h10, zcs (by omega)]; exact hP⟩)
theorem zxf {P : Program} {w0 : World} {N0 : Nat} {rd : Option (Nat × Nat)} {K : AS → Prop} {m : Nat} {D : List Nat} {l : List (Nat × AV)} {hp : List (Nat × Nat × AObj)} {nx ck : Nat} {m6 m8 m10 v fv : AV} {fa : Arg} {args : List Arg} {vs : List AV} (j : Nat) (hj : j < 11) (h6 : 6 ≠ j) (h8 : 8 ≠ j) (h10 : 10 ≠ j)
  (hL : Lk t63 (zw2 m6 m8 m10) D l) (hD : Cl63 D) (hpre : ∀ p ∈ reg63p.getD j [], p ∈ D) (hP : Ph63 (D.contains 6) (D.contains 8) (D.contains 10) (D.contains 11) hp nx ck m6 m8 m10) (hni : j ∉ D)
  (hv : zw2 m6 m8 m10 j = some (zti j, v)) (hio : zik[j]? = some ⟨some (zti j), .call fa args, none⟩) (hok : zcj 51 (some (zti j)) = true) (hf : zbt fa l = some fv) (ha : zht args l = some vs) (hc : CT P w0 N0 fv vs ⟨hp, nx, ck⟩ fun u H' => u = v ∧ H' = ⟨hp, nx, ck⟩)
  (go : ∀ S', zwa (j :: D) S' → AnyF P w0 N0 rd zik reg63p m (j :: D) S' K) : StF P w0 N0 rd zik reg63p m D (st 51 l hp nx ck) K j :=
 af_ct _ hio hok hf ha hc (fun _ _ _ _ h => absurd h y0d) fun u H' hF => by
  obtain ⟨e1, e2⟩ := hF
  subst e1 e2
  exact go _ ⟨_, _, _, _, m6, m8, m10, rfl, hL.add hv (zgg hj) (fun _ _ _ => rfl) (dn63 hj) hni, hD.add hpre, by rw [zcs h6, zcs h8, zcs h10, zcs (by omega)]; exact hP⟩
set_option maxHeartbeats 2000000 in
theorem step63 {w0 : World} {N0 : Nat} {rd : Option (Nat × Nat)} {K : AS → Prop} (m : Nat) (D : List Nat) (S : AS) (j : Nat) (hI : zwa D S) (hj : j < 12) (hni : j ∉ D) (hpre : ∀ p ∈ reg63p.getD j [], p ∈ D)
  (go : ∀ S', zwa (j :: D) S' → AnyF Try.prog w0 N0 rd zik reg63p m (j :: D) S' K) : StF Try.prog w0 N0 rd zik reg63p m D S K j := by
 obtain ⟨l, hp, nx, ck, m6, m8, m10, rfl, hL, hD, hP⟩ := hI
 have b1 : zbn 1 l = some (.vptr [f112]) := hL.1 _ _ (by unfold t63; simp)
 have b2 : zbn 2 l = some f113 := hL.1 _ _ (by unfold t63; simp)
 have pr : ∀ q d v, zw2 m6 m8 m10 q = some (d, v) → q ∈ D → zbn d l = some v := hL.2
 match j, hj, hni, hpre, go with
 | 0, _, hni, hpre, go => exact zqk 0 (by decide) (by decide) (by decide) (by decide) hL hD hpre hP hni rfl rfl rfl (g_mov b2) go
 | 2, _, hni, hpre, go => exact zqk 2 (by decide) (by decide) (by decide) (by decide) hL hD hpre hP hni rfl rfl rfl (g_mov b2) go
 | 4, _, hni, hpre, go => exact zqk 4 (by decide) (by decide) (by decide) (by decide) hL hD hpre hP hni rfl rfl rfl (zyf b1 rfl) go
 | 1, _, hni, hpre, go => exact zxf 1 (by decide) (by decide) (by decide) (by decide) hL hD hpre hP hni rfl rfl rfl (pr 0 11 _ rfl (hpre 0 (by decide))) rfl (zzc 0 _) go
 | 3, _, hni, hpre, go => exact zxf 3 (by decide) (by decide) (by decide) (by decide) hL hD hpre hP hni rfl rfl rfl (pr 2 13 _ rfl (hpre 2 (by decide))) rfl (zzc 1 _) go
 | 5, _, hni, hpre, go => exact zxf 5 (by decide) (by decide) (by decide) (by decide) hL hD hpre hP hni rfl rfl rfl (pr 4 15 _ rfl (hpre 4 (by decide))) rfl (on112t 2 _) go
 | 7, _, hni, hpre, go =>
  have h6 := pr 6 17 _ rfl (hpre 6 (by decide))
  have e6 : D.contains 6 = true := y15.2 (hpre 6 (by decide))
  have hc : ∃ i s, m6 = ms3 i s := by
   rw [e6] at hP
   generalize D.contains 8 = b8 at *
   generalize D.contains 10 = b10 at *
   generalize D.contains 11 = b11 at *
   cases hP <;> exact ⟨_, _, rfl⟩
  obtain ⟨i, s, rfl⟩ := hc
  exact zqk 7 (by decide) (by decide) (by decide) (by decide) hL hD hpre hP hni rfl rfl rfl (zrs (pl := [(0, .int .i64 3), (2, ms3 i s)]) (by simp only [zfl, zbt, h6]; rfl) rfl) go
 | 9, _, hni, hpre, go =>
  have h8 := pr 8 19 _ rfl (hpre 8 (by decide))
  have e8 : D.contains 8 = true := y15.2 (hpre 8 (by decide))
  have hc : ∃ i s, m8 = ms1 i s := by
   rw [e8] at hP
   generalize D.contains 6 = b6 at *
   generalize D.contains 10 = b10 at *
   generalize D.contains 11 = b11 at *
   cases hP <;> exact ⟨_, _, rfl⟩
  obtain ⟨i, s, rfl⟩ := hc
  exact zqk 9 (by decide) (by decide) (by decide) (by decide) hL hD hpre hP hni rfl rfl rfl (zrs (pl := [(0, ms1 i s)]) (by simp only [zfl, zbt, h8]; rfl) rfl) go
 | 6, _, hni, hpre, go =>
  have h1 := pr 1 12 _ rfl (hpre 1 (by decide))
  have h3 := pr 3 14 _ rfl (hpre 3 (by decide))
  have h5 := pr 5 16 _ rfl (hpre 5 (by decide))
  have e6 : D.contains 6 = false := by simpa using hni
  rw [e6] at hP
  refine af_op (i := 6) rfl rfl (zo3 (pl := [(0, .agg (cX (n63 0))), (3, .agg (cX (n63 1))), (6, .agg (cX (.nd 1 2 [])))]) (cs := C9) (by simp only [zfl, zbt, h1, h3, h5]; rfl) rfl) (go _ ⟨_, _, _, _, ms3 nx ck, m8, m10, rfl, hL.add (i := 6) (dv' := zw2 (ms3 nx ck) m8 m10) rfl (zgg (j := 6) (by decide)) (fun q hq hq6 => ?_) (dn63 (j := 6) (by decide)) hni, hD.add hpre, ?_⟩)
  ·match q, hq6, hq with
   | 0, _, _ | 1, _, _ | 2, _, _ | 3, _, _ | 4, _, _ | 5, _, _ | 8, _, _ | 9, _, _ | 10, _, _ => rfl
   | 6, h, _ => exact absurd rfl h
   | 7, _, h => exact absurd (hD 7 h 6 (by decide)) hni
   | q + 11, _, _ => rfl
  rw [zmj, zcs (by decide), zcs (by decide), zcs (by decide)]
  generalize D.contains 8 = b8 at *
  generalize D.contains 10 = b10 at *
  generalize D.contains 11 = b11 at *
  cases hP with
  | p0 => exact .p6 _ _
  | pA => exact .pA6 _
 | 8, _, hni, hpre, go =>
  have h7 := pr 7 18 _ rfl (hpre 7 (by decide))
  have e6 : D.contains 6 = true := y15.2 (hD 7 (hpre 7 (by decide)) 6 (by decide))
  have e8 : D.contains 8 = false := by simpa using hni
  rw [e6, e8] at hP
  have hc : ∃ i s, m6 = ms3 i s := by
   generalize D.contains 10 = b10 at *
   generalize D.contains 11 = b11 at *
   cases hP <;> exact ⟨_, _, rfl⟩
  obtain ⟨i, s, rfl⟩ := hc
  refine af_op (i := 8) rfl rfl (zo3 (pl := [(0, .agg (C3 i s))]) (cs := C3 i s) (by simp only [zfl, zbt, h7]; rfl) rfl) (go _ ⟨_, _, _, _, ms3 i s, ms1 nx ck, m10, rfl, hL.add (i := 8) (dv' := zw2 (ms3 i s) (ms1 nx ck) m10) rfl (zgg (j := 8) (by decide)) (fun q hq hq6 => ?_) (dn63 (j := 8) (by decide)) hni, hD.add hpre, ?_⟩)
  ·match q, hq6, hq with
   | 0, _, _ | 1, _, _ | 2, _, _ | 3, _, _ | 4, _, _ | 5, _, _ | 6, _, _ | 7, _, _ | 10, _, _ => rfl
   | 8, h, _ => exact absurd rfl h
   | 9, _, h => exact absurd (hD 9 h 8 (by decide)) hni
   | q + 11, _, _ => rfl
  rw [zmj, zcs (by decide), zcs (by decide), zcs (by decide), e6]
  generalize D.contains 10 = b10 at *
  generalize D.contains 11 = b11 at *
  cases hP with
  | p6 => exact .p68 _
  | pA6 => exact .pA68
  | p6A => exact .p6A8
 | 10, _, hni, hpre, go =>
  have e10 : D.contains 10 = false := by simpa using hni
  rw [e10] at hP
  refine af_op (i := 10) rfl rfl zya (go _ ⟨_, _, _, _, m6, m8, .mptr nx ck 0, rfl, hL.add (i := 10) (dv' := zw2 m6 m8 (.mptr nx ck 0)) rfl (zgg (j := 10) (by decide)) (fun q hq hq6 => ?_) (dn63 (j := 10) (by decide)) hni, hD.add hpre, ?_⟩)
  ·match q, hq6 with
   | 0, _ | 1, _ | 2, _ | 3, _ | 4, _ | 5, _ | 6, _ | 7, _ | 8, _ | 9, _ => rfl
   | 10, h => exact absurd rfl h
   | q + 11, _ => rfl
  rw [zmj, zcs (by decide), zcs (by decide), zcs (by decide)]
  generalize D.contains 6 = b6 at *
  generalize D.contains 8 = b8 at *
  generalize D.contains 11 = b11 at *
  cases hP with
  | p0 => exact .pA _ _
  | p6 => exact .p6A _
  | p68 => exact .p68A
 | 11, _, hni, hpre, go =>
  have h3 := pr 10 3 _ rfl (hpre 10 (by decide))
  have h20 := pr 9 20 _ rfl (hpre 9 (by decide))
  have e6 : D.contains 6 = true := y15.2 (hpre 6 (by decide))
  have e8 : D.contains 8 = true := y15.2 (hpre 8 (by decide))
  have e10 : D.contains 10 = true := y15.2 (hpre 10 (by decide))
  have e11 : D.contains 11 = false := by simpa using hni
  have hL2 : Lk t63 (zw2 m6 m8 m10) (11 :: D) l := ⟨hL.1, fun q d v hq hm => by
   rcases y0m.1 hm with rfl | hm
   ·cases hq
   ·exact hL.2 q d v hq hm⟩
  rw [e6, e8, e10, e11] at hP
  cases hP with
  | pA68 =>
   exact zwn (i := 11) rfl (zo4 (id := 0) (sp := 1) (off := 0) h3 h20 rfl rfl rfl rfl rfl) (go _ ⟨_, _, _, _, _, _, _, rfl, hL2, hD.add hpre, by
    rw [zcs (by decide), zcs (by decide), zcs (by decide), zmj, e6, e8, e10]
    exact .qA68⟩)
  | p6A8 =>
   exact zwn (i := 11) rfl (zo4 (id := 1) (sp := 2) (off := 0) h3 h20 rfl rfl rfl rfl rfl) (go _ ⟨_, _, _, _, _, _, _, rfl, hL2, hD.add hpre, by
    rw [zcs (by decide), zcs (by decide), zcs (by decide), zmj, e6, e8, e10]
    exact .q6A8⟩)
  | p68A =>
   exact zwn (i := 11) rfl (zo4 (id := 2) (sp := 3) (off := 0) h3 h20 rfl rfl rfl rfl rfl) (go _ ⟨_, _, _, _, _, _, _, rfl, hL2, hD.add hpre, by
    rw [zcs (by decide), zcs (by decide), zcs (by decide), zmj, e6, e8, e10]
    exact .q68A⟩)
 | j + 12, hj, _, _, _ => exact absurd hj (by omega)
theorem region63 {w0 : World} {N0 : Nat} {k : List Fr} {Q : Exit → AS → Prop} {y : IC}
  (fin : Zm Try.prog w0 N0 none y (st 51 ((3, .vptr [.vs (cXs [x63])]) :: t63) [] 0 1) k Q) :
  Zm Try.prog w0 N0 none (.region zik (some reg63p)) (st 51 t63 [] 0 1) (.seq y :: k) Q := by
 refine z_any env0_ok.mix fun rd => zwr (by decide) zwa (fun m D S j hI hj hni hpre go => step63 m D S j hI hj hni hpre go) (fun D S hI hall => Um.ok ?_) 12 [] _ ⟨_, _, _, _, .nils, .nils, .nils, rfl, ⟨fun t v h => ?_, fun _ _ _ _ h => by cases h⟩, fun _ h => absurd h y0d, .p0 _ _ _⟩ rfl
 ·obtain ⟨l, hp, nx, ck, m6, m8, m10, rfl, hL, hD, hP⟩ := hI
  rw [y15.2 (hall 6 (by decide)), y15.2 (hall 8 (by decide)), y15.2 (hall 10 (by decide)), y15.2 (hall 11 (by decide))] at hP
  have h3 := hL.2 10 3 _ rfl (hall 10 (by decide))
  have b0 : zbn 0 l = some (.bool false) := hL.1 _ _ (by unfold t63; simp)
  have b1 : zbn 1 l = some (.vptr [f112]) := hL.1 _ _ (by unfold t63; simp)
  have b2 : zbn 2 l = some f113 := hL.1 _ _ (by unfold t63; simp)
  refine zaa ?_
  cases hP with
  | qA68 =>
   refine zeg [(some (2, 3), [.int .i64 3, .int .i64 0, .vs (cXs [n63 0, n63 1, .nd 1 2 []])]), (some (0, 1), [.ms 0 0 3 0 1 (some 1)])] [(1, 2, C9)] ((3, .mptr 1 0 0) :: t63) rfl (.cons rfl rfl .nil) (.cons rfl (.cons (.same rfl) (.cons (.same rfl) (.cons (.fms rfl rfl (zft _) ⟨[], rfl⟩) .nil))) (.cons rfl (.cons (.ms rfl) .nil) .nil)) (.cons h3 (.mptr rfl) (.cons b2 (.same rfl) (.cons b1 (.same rfl) (.cons b0 (.same rfl) .nil)))) ?_
   refine zeg [(some (1, 0), [.vs (cXs [x63])])] [(0, 0, cX x63)] ((3, .mptr 0 0 0) :: t63) rfl (.cons rfl rfl .nil) (.cons rfl (.cons (.fms rfl rfl (zft _) ⟨[], rfl⟩) .nil) .nil) (.cons rfl (.mptr rfl) (.cons rfl (.same rfl) (.cons rfl (.same rfl) (.cons rfl (.same rfl) .nil)))) ?_
   exact zeg [] [(0, 0, [.vs (cXs [x63])])] ((3, .vptr [.vs (cXs [x63])]) :: t63) rfl (.cons rfl rfl .nil) .nil (.cons rfl (.fptr rfl rfl) (.cons rfl (.same rfl) (.cons rfl (.same rfl) (.cons rfl (.same rfl) .nil)))) fin
  | q6A8 =>
   refine zeg [(some (2, 3), [.int .i64 3, .int .i64 0, .vs (cXs [n63 0, n63 1, .nd 1 2 []])]), (some (1, 2), [.ms 0 0 3 0 1 (some 1)])] [(0, 1, C9)] ((3, .mptr 1 0 0) :: t63) rfl (.cons rfl rfl .nil) (.cons rfl (.cons (.same rfl) (.cons (.same rfl) (.cons (.fms rfl rfl (zft _) ⟨[], rfl⟩) .nil))) (.cons rfl (.cons (.ms rfl) .nil) .nil)) (.cons h3 (.mptr rfl) (.cons b2 (.same rfl) (.cons b1 (.same rfl) (.cons b0 (.same rfl) .nil)))) ?_
   refine zeg [(some (1, 0), [.vs (cXs [x63])])] [(0, 0, cX x63)] ((3, .mptr 0 0 0) :: t63) rfl (.cons rfl rfl .nil) (.cons rfl (.cons (.fms rfl rfl (zft _) ⟨[], rfl⟩) .nil) .nil) (.cons rfl (.mptr rfl) (.cons rfl (.same rfl) (.cons rfl (.same rfl) (.cons rfl (.same rfl) .nil)))) ?_
   exact zeg [] [(0, 0, [.vs (cXs [x63])])] ((3, .vptr [.vs (cXs [x63])]) :: t63) rfl (.cons rfl rfl .nil) .nil (.cons rfl (.fptr rfl rfl) (.cons rfl (.same rfl) (.cons rfl (.same rfl) (.cons rfl (.same rfl) .nil)))) fin
  | q68A =>
   refine zeg [(some (1, 2), [.int .i64 3, .int .i64 0, .vs (cXs [n63 0, n63 1, .nd 1 2 []])]), (some (2, 3), [.ms 0 0 3 0 1 (some 1)])] [(0, 1, C9)] ((3, .mptr 1 0 0) :: t63) rfl (.cons rfl rfl .nil) (.cons rfl (.cons (.same rfl) (.cons (.same rfl) (.cons (.fms rfl rfl (zft _) ⟨[], rfl⟩) .nil))) (.cons rfl (.cons (.ms rfl) .nil) .nil)) (.cons h3 (.mptr rfl) (.cons b2 (.same rfl) (.cons b1 (.same rfl) (.cons b0 (.same rfl) .nil)))) ?_
   refine zeg [(some (1, 0), [.vs (cXs [x63])])] [(0, 0, cX x63)] ((3, .mptr 0 0 0) :: t63) rfl (.cons rfl rfl .nil) (.cons rfl (.cons (.fms rfl rfl (zft _) ⟨[], rfl⟩) .nil) .nil) (.cons rfl (.mptr rfl) (.cons rfl (.same rfl) (.cons rfl (.same rfl) (.cons rfl (.same rfl) .nil)))) ?_
   exact zeg [] [(0, 0, [.vs (cXs [x63])])] ((3, .vptr [.vs (cXs [x63])]) :: t63) rfl (.cons rfl rfl .nil) .nil (.cons rfl (.fptr rfl rfl) (.cons rfl (.same rfl) (.cons rfl (.same rfl) (.cons rfl (.same rfl) .nil)))) fin
 ·unfold t63 at *
  simp only [y0m, y0a, y0d, or_false] at h
  rcases h with ⟨rfl, rfl⟩ | ⟨rfl, rfl⟩ | ⟨rfl, rfl⟩ <;> rfl
def s63 : List Sp := [⟨[⟨1, true⟩], 0⟩, ⟨[⟨0, true⟩], 0⟩, ⟨[⟨1, false⟩], 0⟩, ⟨[⟨0, false⟩], 0⟩]
theorem slim63 : ∀ y ∈ [x63], Slim y := fun y hy => by
 obtain rfl := y0e.1 hy
 refine .nd (by decide) fun y hy => ?_
 simp only [y0m, y0d, or_false] at hy
 rcases hy with rfl | rfl | rfl
 ·exact .nd (by decide) fun y hy => by
   obtain rfl := y0e.1 hy
   exact .nd (by decide) (fun _ h => by cases h)
 ·exact .nd (by decide) fun y hy => by
   obtain rfl := y0e.1 hy
   exact .nd (by decide) (fun _ h => by cases h)
 ·exact .nd (by decide) (fun _ h => by cases h)
def l63 : List Sk := zjx [x63] 2 (zok [x63] 2) 3 1
theorem fv63 : zpw [x63] [true, false] = .tup [.vs (cSs l63), .int .i64 0] := by
 have h1 : zcc [x63] [true, false].length = 0 := by decide
 have h2 : zdw [x63] (zdn [true, false]) = true := by decide
 have h3 : (zok [x63] [true, false].length).getD (zd9 [true, false]) 0 = 3 := by decide
 have h4 : zd9 [true, false] = 1 := by decide
 unfold zpw l63
 rw [if_pos h1, if_pos h2, h3, h4]
 rfl
theorem dt63 : dgT [x63] 2 s63 = (3, [3, 0], true) := by decide
theorem dc63 : dgC [x63] 2 s63 = 0 := by decide
theorem dg63 : dgV [x63] 2 s63 = .tup [.int .i64 3, vsI [3, 0], .bool true, .int .i64 0] := by
 unfold dgV
 rw [dt63, dc63]
theorem zzm : PF Try.prog 114 [.str [66, 43, 59, 32, 65, 43, 59, 32, 66, 45, 59, 32, 65, 45]] (.agg (cQ 2 s63)) :=
 zpd (env0_ok) (n := 80) (by kernel_rfl)
theorem find63 : PF Try.prog 37 [.agg [.vs (cXs [x63])], vsB [true, false]] (.tup [.vs (cSs l63), .int .i64 0]) := by
 have := find37 [x63] slim63 [true, false] fun _ => by decide
 rwa [fv63] at this
theorem dang63 : PF Try.prog 18 [.agg [.vs (cXs [x63])], .agg (cQ 2 s63)] (.tup [.int .i64 3, vsI [3, 0], .bool true, .int .i64 0]) := by
 have := zth [x63] slim63 2 s63 (by decide) fun _ => by decide
 rwa [dg63] at this
-- pneumatic/pneumatictop.caseHomes
def ic63 : IC := .seq (.region [oM 0 (.mov (.c (.bool false)))] none)
 (.seq (.region [oM 1 (.alloc [.nilf]),
  ⟨none, .store 1 (.t 1) (.c (.fn 112 [] [])), none⟩] none)
 (.seq (.region [oM 10 (.mkfn 113 [] [(.t 1)]),
  oT 2 10] none)
 (.seq (.region [oT 11 2,
  oM 12 (.call (.t 11) [(.c (.int .i64 0))]),
  oT 13 2,
  oM 14 (.call (.t 13) [(.c (.int .i64 1))]),
  oN 15 1,
  oM 16 (.call (.t 15) [(.c (.int .i64 2))]),
  oM 17 (.bslice 3 3 [.int .i64 0, .int .i64 0, .nils, .int .i64 0, .int .i64 0, .nils, .int .i64 0, .int .i64 0, .nils] [(0, 3, (.t 12)), (3, 3, (.t 14)), (6, 3, (.t 16))]),
  oM 18 (.build [.int .i64 0, .int .i64 0, .nils] [(0, 1, (.c (.int .i64 3))), (2, 1, (.t 17))]),
  oM 19 (.bslice 3 1 [.int .i64 0, .int .i64 0, .nils] [(0, 3, (.t 18))]),
  oM 20 (.build [.nils] [(0, 1, (.t 19))]),
  oM 3 (.alloc [.nils]),
  ⟨none, .store 1 (.t 3) (.t 20), none⟩] (some [[], [0], [], [2, 1], [], [4, 3], [1, 3, 5], [6], [7], [8], [], [10, 9, 5, 0, 1, 2, 3, 4, 5, 6, 7, 8, 9, 10]]))
 (.seq (.region [oL 22 1 3,
  oM 23 (.bslice 1 2 [.bool false, .bool false] [(0, 1, (.c (.bool true))), (1, 1, (.c (.bool false)))]),
  oM 24 (.call (.c (.fn 37 [] [])) [(.t 22), (.t 23)]),
  oT 21 24,
  oM 25 (.extract (.t 21) 0),
  oM 26 (.extract (.t 21) 1),
  oT 4 25,
  oT 5 26] none)
 (.seq (.region [oL 28 1 3,
  oM 29 (.call (.c (.fn 114 [] [])) [(.c (.str [66, 43, 59, 32, 65, 43, 59, 32, 66, 45, 59, 32, 65, 45]))]),
  oM 30 (.call (.c (.fn 18 [] [])) [(.t 28), (.t 29)]),
  oT 27 30,
  oM 31 (.extract (.t 27) 0),
  oM 32 (.extract (.t 27) 1),
  oM 33 (.extract (.t 27) 2),
  oM 34 (.extract (.t 27) 3),
  oT 6 31,
  oT 7 32,
  oT 8 33,
  oT 9 34] (some [[], [], [0, 1, 1], [2], [3], [3], [3], [3], [4, 2, 0, 1, 2, 3, 4], [5, 8, 0, 1, 2, 3, 4, 5, 8], [6, 9, 0, 1, 2, 3, 4, 5, 6, 8, 9], [7, 10, 0, 1, 2, 3, 4, 5, 6, 7, 8, 9, 10]]))
 (.seq (.region [oT 35 5,
  oT 36 9,
  oM 37 (.bin .add (.t 35) (.t 36)),
  oM 38 (.bin .eql (.t 37) (.c (.int .i64 0))),
  oT 39 38,
  ⟨(some 40), .mov (.t 4), some (39, true)⟩,
  ⟨(some 41), .len false (.t 40), some (39, true)⟩,
  ⟨(some 42), .bin .eql (.t 41) (.c (.int .i64 3)), some (39, true)⟩,
  oM 43 (.pick (.t 39) (.t 42) (.c (.bool false))),
  oT 44 43,
  ⟨(some 45), .mov (.t 8), some (44, true)⟩,
  oM 46 (.pick (.t 44) (.t 45) (.c (.bool false))),
  oT 47 46,
  ⟨(some 48), .mov (.t 6), some (47, true)⟩,
  ⟨(some 49), .bin .eql (.t 48) (.c (.int .i64 3)), some (47, true)⟩,
  oM 50 (.pick (.t 47) (.t 49) (.c (.bool false))),
  oT 0 50] none)
 (.ret)))))))
theorem fn63 : env0.fn 63 = some ⟨51, ic63, [.t 0]⟩ := by kernel_rfl
theorem zs8 {f g : FuncId} {args bs : List AV} {v w : AV} {l : List (FuncId × List AV × AV)} (h : g ≠ f) (k : zdx l f args = some w) : zdx ((g, bs, v) :: l) f args = some w := by
 simp [zdx, h, k]
theorem zet : PF Try.prog 63 [] (.bool true) := by
 refine zb1 env0_ok fn63 [] (by show 0 ≤ 51; decide) rfl fun w0 N0 => ?_
 unfold ic63
 refine zsr rfl (za1 rfl (onu ?_))
 refine zsr rfl (zau (zad rfl rfl rfl rfl rfl rfl rfl (onu ?_)))
 refine zeg [] [(0, 0, [f112])] [(1, .vptr [f112]), (0, .bool false)] rfl (.cons rfl rfl .nil) .nil (.cons rfl (.fptr rfl rfl) (.cons rfl (.same rfl) .nil)) ?_
 refine zsr rfl (zfk rfl rfl (za1 rfl (onu ?_)))
 refine zeg [] [] t63 rfl .nil .nil (.cons rfl (.same rfl) (.cons rfl (.same rfl) (.cons rfl (.same rfl) .nil))) ?_
 refine za8 (region63 ?_)
 refine zsr rfl ?_
 refine zam rfl rfl rfl rfl (zch rfl rfl ?_)
 refine zop 0 1 [(22, .agg [.vs (cXs [x63])]), (23, vsB [true, false]), (3, .vptr [.vs (cXs [x63])])] rfl rfl (.cons rfl .same (.cons rfl (.fms1 (vs := [.bool true, .bool false]) rfl) (.cons rfl .same .nil))) ?_
 refine zap rfl rfl find63 noC ?_
 refine za1 rfl (zbj rfl rfl (zbj rfl rfl (za1 rfl (za1 rfl (onu (za8 ?_))))))
 refine zg4 env0_ok [(114, [.str [66, 43, 59, 32, 65, 43, 59, 32, 66, 45, 59, 32, 65, 45]], .agg (cQ 2 s63)), (18, [.agg [.vs (cXs [x63])], .agg (cQ 2 s63)], .tup [.int .i64 3, vsI [3, 0], .bool true, .int .i64 0])] (fun x hx => by
  simp only [y0m, y0d, or_false] at hx
  rcases hx with rfl | rfl
  ·exact zzm
  ·exact dang63) (fun f => Nat.beq f 114 || Nat.beq f 18) rfl rfl rfl ?_
 refine zam rfl rfl rfl rfl ?_
 refine zap rfl rfl zbq noC ?_
 refine zap rfl rfl (zs8 (by decide) zbq) noC ?_
 repeat (first | refine za8 ?_ | refine za5 rfl ?_ | refine zai ?_ | refine zaa ?_ | refine zak ?_ | refine zbc rfl ?_ | refine za1 rfl ?_ | refine zat rfl rfl ?_ | refine zbd rfl rfl ?_ | refine zbj rfl rfl ?_ | refine zb6 (op := .add) rfl rfl rfl ?_ | refine zby rfl rfl rfl ?_)
 exact zaf ⟨.inr rfl, _, rfl, rfl⟩
def e6 (n : Nat) (l : List Sp) (i : Nat) : List Bool := zgy (List.replicate n false) (l.take i) ++ List.replicate (6 - n) false
theorem zl0 {n : Nat} {l : List Sp} (ok : SeqOk n l) (i : Nat) : (e6 n l i).length = 6 := by
 unfold e6
 rw [y0j, SeqOk.behLen, y11]
 have := ok.n6
 omega
theorem e6_zero {n : Nat} {l : List Sp} (ok : SeqOk n l) : e6 n l 0 = List.replicate 6 false := by
 unfold e6
 rw [List.take_zero]
 show List.replicate n false ++ _ = _
 rw [y1i]
 congr 1
 have := ok.n6
 omega
theorem e6_succ {n : Nat} {l : List Sp} (ok : SeqOk n l) {i : Nat} (h : i < l.length) : e6 n l (i + 1) = aft (e6 n l i) l[i].l := by
 unfold e6
 rw [zko h, zr6 l[i].l _ ((ok.step h).acts (by rw [SeqOk.behLen]))]
-- pneumatic/sequence.along
def ic115 : IC := .seq (.region [oM 1 (.box (.t 0)),
  oM 2 (.mov (.c (.nilf)))] none)
 (.seq (.region [oM 3 (.mkfn 146 [] [(.t 1)]),
  oT 2 3] none)
 (.ret))
theorem fn115 : env0.fn 115 = some ⟨4, ic115, [.t 2]⟩ := by kernel_rfl
theorem along115 (n : Int) (l : List Sp) : PF Try.prog 115 [.agg (cQ n l)] (.fn 146 [] [.vptr (cQ n l)]) := by
 refine zb1 env0_ok fn115 [(0, .agg (cQ n l))] (by show 1 ≤ 4; decide) rfl fun w0 N0 => ?_
 unfold ic115
 unfold cQ
 refine zsr rfl (zc1 rfl rfl (za1 rfl (onr rfl (zfk rfl rfl (za1 rfl (onu (zak ?_)))))))
 exact zaf ⟨.inr rfl, _, rfl, rfl⟩
theorem view6 {X : List Bool} (h : X.length = 6) (S : AS) : S.view VD (.agg (X.map AV.bool)) = .agg (X.map AV.bool) :=
 match X, h with
 | [_, _, _, _, _, _], _ => rfl
theorem zkl : ∀ X : List Bool, (X.map AV.bool).all AV.isCell = true
 | [] => rfl
 | _ :: l => zkl l
def b146_0 : IC := .seq (.region [oM 10 (.bin .lss (.t 9) (.t 8))] none)
 (.seq (.cond (.t 10) (.skip)
 (.exit 0))
 (.seq (.block 1 (.seq (.region [oT 11 9,
  oM 12 (.idxs 2 (.t 7) (.t 9)),
  oL 13 2 12,
  oM 5 (.alloc [.nils, .int .i64 0]),
  oT 4 11,
  ⟨none, .store 2 (.t 5) (.t 13), none⟩] none)
 (.seq (.seq (.region [oT 14 0,
  oT 15 4,
  oL 16 6 3,
  oM 17 (.call (.t 14) [(.t 15), (.t 16)]),
  oM 18 (.un .not (.t 17))] none)
 (.cond (.t 18) (.ret)
 (.skip)))
 (.region [oL 19 6 3,
  oL 20 2 5,
  oM 21 (.call (.c (.fn 121 [] [])) [(.t 19), (.t 20)]),
  ⟨none, .store 6 (.t 3) (.t 21), none⟩] none))))
 (.region [oM 22 (.bin .add (.t 9) (.c (.int .i64 1))),
  oT 9 22] none)))
-- pneumatic/sequence.along$1
def ic146 : IC := .seq (.region [oM 3 (.alloc [.bool false, .bool false, .bool false, .bool false, .bool false, .bool false])] none)
 (.seq (.seq (.region [oF 6 1 1,
  oN 7 6,
  oM 8 (.len false (.t 7)),
  oM 9 (.mov (.c (.int .i64 0)))] none)
 (.block 0 (.loop b146_0)))
 (.region [oT 23 0,
  oF 24 1 1,
  oN 25 24,
  oM 26 (.len false (.t 25)),
  oL 27 6 3,
  oM 28 (.call (.t 23) [(.t 26), (.t 27)])] none))
theorem fn146 : env0.fn 146 = some ⟨29, ic146, []⟩ := by kernel_rfl
section
variable {M : Nat → Prop} {I : Unit → HS → Prop} {J : HS → Prop}
def Rnd (M : Nat → Prop) (I : Unit → HS → Prop) (J : HS → Prop) (H : HS) (b : Bool) (v : AV) (H' : HS) : Prop :=
 Keep M H H' ∧ v = .bool b ∧ match b with
  | true => I () H'
  | false => J H'
set_option maxHeartbeats 2000000 in
theorem along146 {w0 : World} {N0 id sp : Nat} (hloc : Local M I) {n : Nat} {l : List Sp} (ok : SeqOk n l) (k : Nat) (hk : k ≤ l.length)
  (hy : ∀ i H, i ≤ l.length → I () H → CT Try.prog w0 N0 (.yield id sp) [.int .i64 (i : Nat), .agg ((e6 n l i).map AV.bool)] H (Rnd M I J H (!decide (i = k)))) (H : HS) (hI : I () H) :
  FT Try.prog w0 N0 146 [.yield id sp, .vptr (cQ n l)] H fun _ H' => Keep M H H' ∧ J H' := by
 have l64 := ok.l64
 have hcl : (cPs l).length = l.length := zfh l
 refine zep env0_ok fn146 [(0, .yield id sp), (1, .vptr (cQ n l))] (by show 2 ≤ 29; decide) rfl ?_
 unfold ic146 cQ
 refine zsr rfl (zau (onu (za8 (zsr rfl (zaw rfl rfl rfl (za7 rfl rfl (zbd rfl rfl (za1 rfl (onu ?_)))))))))
 refine zac ?_
 have hlt := hloc.lt () H hI
 have hz : ([.bool false, .bool false, .bool false, .bool false, .bool false, .bool false] : List AV) = (e6 n l 0).map AV.bool := by rw [e6_zero ok]; rfl
 rw [hz]
 refine zbu (fun m S => ∃ i H', m = l.length - i ∧ i ≤ l.length ∧ i ≤ k ∧ I () H' ∧ Keep M H H' ∧ H.next < H'.next ∧ Am.look H.next H'.heap = some (H.clk, .cells ((e6 n l i).map AV.bool)) ∧
   S = st 29 [(0, .yield id sp), (1, .vptr [.int .i64 (n : Nat), .vs (cPs l)]), (3, .mptr H.next H.clk 0), (7, .vs (cPs l)), (8, .int .i64 ((cPs l).length : Nat)), (9, .int .i64 (i : Nat))] H'.heap H'.next H'.clk) l.length
  (zan (.cons rfl (.cons rfl (.cons rfl (.cons rfl (.cons rfl (.cons rfl .nil))))))) ⟨0, ⟨_, _, _⟩, rfl, y0t _, y0t _, hloc.new hI _ _, Keep.new M H _, y0k _, zar, rfl⟩ ?_
 rintro m S ⟨i, H', rfl, hi, hik, hI', hK', hnx, hlk, rfl⟩
 unfold b146_0
 refine zsr rfl ?_
 refine zaq rfl rfl rfl (fun h => ?_) fun h => ?_
 ·have hlt2 : i < l.length := by
   have := of_decide_eq_true h
   rw [hcl] at this
   omega
  have hge := zrh hlt2
  have hst := ok.step hlt2
  have e6l := zl0 ok i
  have q1 := zt4 l[i] (e6 n l i) (by have := hst.len; omega) e6l (fun s hs => by
   have := hst.acts (by rw [SeqOk.behLen]) s hs
   rw [SeqOk.behLen] at this
   have := ok.n6
   omega)
  rw [← e6_succ ok hlt2] at q1
  generalize l[i] = p at hge q1
  obtain ⟨ps, pw⟩ := p
  have q1 : PF Try.prog 121 [.agg ((e6 n l i).map AV.bool), .agg [.vs (cSs ps), .int .i64 pw]] (.agg ((e6 n l (i + 1)).map AV.bool)) := q1
  have hlm : ((e6 n l i).map AV.bool).length = 6 := by rw [y09, e6l]
  refine onu (za8 (zb4 rfl (zab (zaa (za8 (zac (zsr rfl (za1 rfl (zbh rfl rfl (by omega) (by assumption) rfl (zam rfl rfl rfl rfl (zau ?_)))))))))))
  refine za1 rfl ?_
  refine zad rfl rfl rfl rfl zar rfl rfl ?_
  rw [zbr]
  refine onu (za8 (zsr rfl (za1 rfl (za1 rfl ?_))))
  have hN : ¬ M H'.next := fun hm => Nat.lt_irrefl _ (hloc.lt () H' hI' _ hm)
  have hA : ¬ M H.next := fun hm => Nat.lt_irrefl _ (hlt _ hm)
  refine zcu rfl ((zaz hnx).trans hlk) (y1p hnx) (by rw [y14, hlm]; rfl) (by rw [y14, y1f (by omega)]) ?_
  have hK0 := hK'.trans (Keep.new M H' (H'.clk, .cells [.vs (cSs ps), .int .i64 pw]))
  refine zsb _ rfl rfl (hy i ⟨_, _, _⟩ hi (hloc.new hI' _ _)) (fun _ _ _ _ hm => absurd hm y0d) fun v H3 hF => ?_
  obtain ⟨hK3, rfl, hF⟩ := hF
  have hK4 := hK0.trans hK3
  by_cases hk1 : i = k
  ·subst hk1
   rw [show (!decide (i = i)) = false by simp] at hF ⊢
   refine zfr rfl rfl (onu (zb4 rfl (zak (za4 (zag (za4 ?_))))))
   refine zbb ?_
   refine zag (za4 ?_)
   exact zaf ⟨.inr rfl, _, rfl, hK4, hF⟩
  ·rw [show (!decide (i = k)) = true by simp [hk1]] at hF ⊢
   refine zfr rfl rfl (onu (zb8 rfl (zab (zaa (za5 rfl ?_)))))
   refine zcu rfl ((hK3.look H.next hA (y1p hnx)).trans ((zaz hnx).trans hlk)) (y0v (y1p hnx) hK3.next) (by rw [y14, hlm]; rfl) (by rw [y14, y1f (by omega)]) ?_
   refine zcu rfl ((hK3.look H'.next hN (y0k _)).trans zar) (y0v (y0k _) hK3.next) rfl rfl ?_
   refine zap rfl (by rw [y1h, view6 e6l]; rfl) q1 (fun h => absurd h (by
    show ¬ (hasM.hasML ((e6 n l i).map AV.bool) || _) = true
    rw [zbx]
    exact Bool.noConfusion)) ?_
   refine zad (vs := (e6 n l (i + 1)).map AV.bool) rfl rfl rfl (by rw [y09, zl0 ok]; rfl) ((hK3.look H.next hA (y1p hnx)).trans ((zaz hnx).trans hlk)) (by rw [y09, y09, zl0 ok, e6l]; rfl) (zkl _) ?_
   refine zai (zb7 (zaa (za5 rfl (zb6 (op := .add) rfl rfl rfl (za1 rfl (zai ?_))))))
   rw [zas i (by omega)]
   have hset : setAt 0 ((e6 n l i).map AV.bool) ((e6 n l (i + 1)).map AV.bool) = (e6 n l (i + 1)).map AV.bool := by
    unfold setAt
    rw [List.take_zero, y28, List.drop_of_length_le (by rw [y09, y09, zl0 ok, zl0 ok]; omega), y0p]
   rw [hset]
   have hKs : Keep M H ⟨zax H.next (H.clk, .cells ((e6 n l (i + 1)).map AV.bool)) H3.heap, H3.next, H3.clk⟩ := ⟨hK4.next, hK4.clk, fun j hm hj => by rw [za0, if_neg (by omega)]; exact hK4.look j hm hj⟩
   exact zav (show l.length - (i + 1) < l.length - i by omega) (zan (.cons rfl (.cons rfl (.cons rfl (.cons rfl (.cons rfl (.cons rfl .nil)))))))
    ⟨i + 1, ⟨zax H.next (H.clk, .cells ((e6 n l (i + 1)).map AV.bool)) H3.heap, H3.next, H3.clk⟩, rfl, hlt2, by omega, hloc.of () H3 _ hF (y0c _) (fun j hj => by rw [za0, if_neg (fun e : H.next = j => hA (by rw [e]; exact hj))]), hKs, y0v (y1p hnx) hK3.next, by rw [za0, if_pos rfl], rfl⟩
 ·have hi2 : i = l.length := by
   have := of_decide_eq_false h
   rw [hcl] at this
   omega
  have hik2 : i = k := by omega
  have e6l := zl0 ok i
  have hlm : ((e6 n l i).map AV.bool).length = 6 := by rw [y09, e6l]
  refine onu (za8 (zb8 rfl (zbm (zao ?_))))
  refine zcn ?_
  refine zbl (zaa (za5 rfl (za1 rfl (zaw rfl rfl rfl (za7 rfl rfl (zbd rfl rfl ?_))))))
  refine zcu (m := 6) rfl hlk hnx (by rw [y14, hlm]; rfl) (by rw [y14, y1f (by omega)]) ?_
  have hyi := hy i ⟨H'.heap, H'.next, H'.clk⟩ hi hI'
  rw [show (!decide (i = k)) = false by simp [hik2]] at hyi
  refine zsb _ rfl (by simp only [zht, zbt]; rw [hcl, ← hi2]; rfl) hyi (fun _ _ _ _ hm => absurd hm y0d) fun v H3 hF => ?_
  obtain ⟨hK3, rfl, hF⟩ := hF
  refine zai ?_
  exact zaf ⟨.inl rfl, _, rfl, hK'.trans hK3, hF⟩
end
theorem zml : ∀ E : List Bool, E.map AV.bool = (E.map fun z => ([.bool z] : List AV)).flatten
 | [] => rfl
 | b :: l => by rw [y1h, y1h, y1n, ← zml l]; rfl
theorem znd {S : AS} {d id sp : Nat} {cap : Option Nat} (E R : List Bool) (hl : Am.look id S.heap = some (sp, .cells ((E ++ R).map AV.bool))) : S.view (d + 1) (.ms id sp 1 0 E.length cap) = vsB E := by
 have e : S.elems 1 (.ms id sp 1 0 E.length cap) = some (E.map fun z => ([.bool z] : List AV)) := by
  obtain ⟨n, t, hp, nx, ck, mk⟩ := S
  exact zd7 (ys := R.map AV.bool) (cap := cap) (n := n) (nx := nx) (ck := ck) (mk := mk) (l := []) (hp := hp) (by rw [← zml, ← y22]; exact hl) (y09 ..) (fun x hx => by obtain ⟨s, _, rfl⟩ := y0o.1 hx; rfl)
 simp only [AS.view, e]
 unfold vsB
 congr 1
 rw [y1y]
 apply y1w
 intro s _
 cases d <;> rfl
noncomputable def zmc : Code := match env0.fn 65 with
 | some i => ((zbs i.ic)[0]?.getD (.skip, .skip)).1
 | none => .skip
noncomputable def zme : Code := match env0.fn 65 with
 | some i => ((zbs i.ic)[0]?.getD (.skip, .skip)).2
 | none => .skip
def zra : IC := .seq (.region [oT 7 16] none)
 (.region [oM 8 (.alloc [.bool false, .bool false, .bool false, .bool false, .bool false, .bool false]),
  ⟨none, .store 6 (.t 8) (.t 17), none⟩] none)
def zzt : IC := .block 1 (.seq (.region [oT 18 7,
  oN 19 3,
  oM 20 (.bin .eql (.t 18) (.t 19))] none)
 (.cond (.t 20) (.seq (.region [oF 21 0 2,
  oN 22 21,
  oM 23 (.slarr 6 1 (.t 8) none (some (.t 22))),
  oM 24 (.call (.c (.fn 44 [] [])) [(.t 23)]),
  ⟨none, .store 1 (.t 4) (.t 24), none⟩,
  ⟨none, .store 1 (.t 5) (.c (.int .i64 0)), none⟩] none)
 (.ret))
 (.skip)))
-- pneumatic/sequence.Ends
noncomputable def ic65 : IC := .seq (.region [oM 2 (.box (.t 0)),
  oM 3 (.box (.t 1)),
  oM 4 (.alloc [.nils]),
  oM 5 (.alloc [.int .i64 0])] none)
 (.seq (.seq (.region [oL 9 2 2,
  oM 10 (.call (.c (.fn 72 [] [])) [(.t 9)]),
  oT 6 10] none)
 (.seq (.region [oT 11 6,
  oM 12 (.bin .neq (.t 11) (.c (.int .i64 0)))] none)
 (.cond (.t 12) (.seq (.region [oT 13 6,
  ⟨none, .store 1 (.t 4) (.c (.nils)), none⟩,
  ⟨none, .store 1 (.t 5) (.t 13), none⟩] none)
 (.ret))
 (.skip))))
 (.seq (.seq (.region [oL 14 2 2,
  oM 15 (.call (.c (.fn 115 [] [])) [(.t 14)])] none)
 (.block 0 (.rangeFunc (.t 15) [16, 17] zmc zme zra zzt)))
 (.seq (.region [⟨none, .store 1 (.t 4) (.c (.nils)), none⟩,
  ⟨none, .store 1 (.t 5) (.c (.int .i64 2)), none⟩] none)
 (.ret))))
theorem fn65 : env0.fn 65 = some ⟨25, ic65, [.cell 4 none, .cell 5 none]⟩ := by kernel_rfl
theorem zvr {S : AS} {a b : Nat} {pa pb va vb : AV} {ra rb : List AV} (h1 : S.get a = some pa) (d1 : S.deref pa = some (va :: ra)) (h2 : S.get b = some pb) (d2 : S.deref pb = some (vb :: rb)) :
  S.res [.cell a none, .cell b none] = some (.tup [va, vb]) := by
 simp [AS.res, AS.resL, zs7, h1, h2, d1, d2]
structure I65 (ltm : List (Nat × AV)) (n k : Nat) (l : List Sp) (_ : Unit) (H : HS) : Prop where
 nx : 6 ≤ H.next
 h5 : Am.look 5 H.heap = some (5, .loop .ready none 25 (zcz ltm) [16, 17] zmc zme (4, 4))
 h4 : Am.look 4 H.heap = some (4, .deferred)
 h3 : Am.look 3 H.heap = some (3, .cells [.int .i64 0])
 h2 : Am.look 2 H.heap = some (2, .cells [.nils])
 h1 : Am.look 1 H.heap = some (1, .cells [.int .i64 (k : Nat)])
 h0 : Am.look 0 H.heap = some (0, .cells (cQ (n : Nat) l))
structure J65 (E : List Bool) (H : HS) : Prop where
 nx : 6 ≤ H.next
 h5 : ∃ tm, Am.look 5 H.heap = some (5, .loop .done (some .ret) 25 tm [16, 17] zmc zme (4, 4))
 h4 : Am.look 4 H.heap = some (4, .deferred)
 h3 : Am.look 3 H.heap = some (3, .cells [.int .i64 0])
 h2 : ∃ q s, 6 ≤ q ∧ q < H.next ∧ Am.look 2 H.heap = some (2, .cells [.ms q s 1 0 E.length none]) ∧ Am.look q H.heap = some (s, .cells (E.map AV.bool))
theorem local65 (ltm : List (Nat × AV)) (n k : Nat) (l : List Sp) : Local (fun i => i < 6) (I65 ltm n k l) :=
 ⟨fun s H h i hi => y0v hi h.nx, fun s H H' h hn hl =>
  ⟨y0q h.nx hn, (hl 5 (by decide)).trans h.h5, (hl 4 (by decide)).trans h.h4, (hl 3 (by decide)).trans h.h3, (hl 2 (by decide)).trans h.h2, (hl 1 (by decide)).trans h.h1, (hl 0 (by decide)).trans h.h0⟩⟩
set_option maxHeartbeats 2000000 in
theorem yield65 {w0 : World} {N0 : Nat} (ltm : List (Nat × AV)) (g2 : zbt (.t 2) ltm = some (.mptr 0 0 0)) (g3 : zbt (.t 3) ltm = some (.mptr 1 1 0)) (g4 : zbt (.t 4) ltm = some (.mptr 2 2 0)) (g5 : zbt (.t 5) ltm = some (.mptr 3 3 0)) {n : Nat} {l : List Sp} (ok : SeqOk n l) (n4 : n ≤ 4) (k : Nat) (hk : k ≤ l.length)
  (ha : Com Try.prog zmc zra) (hb : Com Try.prog zme zzt) (i : Nat) (H : HS) (hi : i ≤ l.length) (h : I65 ltm n k l () H) :
  CT Try.prog w0 N0 (.yield 5 5) [.int .i64 (i : Nat), .agg ((e6 n l i).map AV.bool)] H (Rnd (fun i => i < 6) (I65 ltm n k l) (J65 (zgy (List.replicate n false) (l.take k))) H (!decide (i = k))) := by
 obtain ⟨nx, h5, h4, h3, h2, h1, h0⟩ := h
 have n1 := ok.n1
 have l64 := ok.l64
 have e6l := zl0 ok i
 have hlm : ((e6 n l i).map AV.bool).length = 6 := by rw [y09, e6l]
 have hset : setAt 0 [.bool false, .bool false, .bool false, .bool false, .bool false, .bool false] ((e6 n l i).map AV.bool) = (e6 n l i).map AV.bool := by
  unfold setAt
  rw [List.take_zero, y28, List.drop_of_length_le (by rw [hlm]; exact y0c _), y0p]
 refine zkx (l0 := (17, .agg ((e6 n l i).map AV.bool)) :: (16, .int .i64 (i : Nat)) :: ltm) h5 ha hb rfl (by decide) rfl ?_
 unfold zra
 refine zsr rfl (za1 rfl (onR rfl (zau ?_)))
 refine zad (vs := (e6 n l i).map AV.bool) rfl rfl rfl (by rw [hlm]; rfl) zar (by rw [hlm]; rfl) (zkl _) ?_
 rw [zbr, hset]
 refine zai ?_
 refine zaf ⟨rfl, _, _, _, _, rfl, ?_, ?_⟩
 ·rw [za2, if_neg (by omega)]; exact h5
 unfold zzt
 refine zac (zsr rfl (za1 rfl ?_))
 refine zbk (sp := 1) (cs := [.int .i64 (k : Nat)]) g3 (by rw [za0, if_neg (by decide), zaz (by omega)]; exact h1) (by omega) rfl ?_
 refine zaq rfl rfl rfl (fun hg => ?_) fun hg => ?_
 ·have hik : i = k := by
   have := of_decide_eq_true hg
   omega
  subst hik
  rw [show (!decide (i = i)) = false by simp]
  have hE : (zgy (List.replicate n false) (l.take i)).length = n := SeqOk.behLen i
  have hXe : e6 n l i = zgy (List.replicate n false) (l.take i) ++ List.replicate (6 - n) false := rfl
  rw [hXe] at *
  generalize zgy (List.replicate n false) (l.take i) = E at *
  have hv : ∀ S : AS, Am.look H.next S.heap = some (H.clk, .cells ((E ++ List.replicate (6 - n) false).map AV.bool)) → S.view VD (.ms H.next H.clk 1 0 n (some 6)) = vsB E := fun S hS => by
   have := znd (d := VD - 1) (cap := some 6) E _ hS
   rw [hE] at this
   exact this
  have pc := clone44 (e := E) (by omega) (by omega)
  refine onu (zb4 rfl (zsr rfl ?_))
  refine za9 g2 ?_
  refine zbk (sp := 0) (cs := cQ (n : Nat) l) rfl (by rw [za0, if_neg (by decide), zaz (by omega)]; exact h0) (by omega) rfl ?_
  refine zhj (lo := 0) (hh := (n : Nat)) rfl rfl rfl rfl rfl ⟨by omega, by omega, by omega⟩ ?_
  refine o_own rfl (congrArg (fun v => [v]) (hv _ ?_)) pc (zl4 _) ?_
  ·show Am.look H.next (zax 5 _ _) = _
   rw [za0, if_neg (by omega)]
   exact zar
  refine zad (sp := 2) (cs := [.nils]) g4 rfl rfl rfl (by rw [zaz (by omega), za0, if_neg (by decide), zaz (by omega)]; exact h2) rfl rfl ?_
  refine zad (sp := 3) (cs := [.int .i64 0]) g5 rfl rfl rfl (by rw [za0, if_neg (by decide), zaz (by omega), za0, if_neg (by decide), zaz (by omega)]; exact h3) rfl rfl ?_
  refine onu (zak (zag ?_))
  refine zaf ⟨25, zcz ltm, [16, 17], zmc, zme, (4, 4), ?_, some .ret, rfl, ?_⟩
  ·dsimp only [st]
   rw [za0, if_neg (by decide), za0, if_neg (by decide), zaz (by omega), za0, if_pos rfl]
  have hp5 : ∀ j, j ≠ 5 → j ≠ 3 → j ≠ 2 → j < H.next → ∀ (u v w : Nat × AObj) (x y : Nat × AObj) (z : Nat × AObj), Am.look j (zax 5 z (zax 3 v (zax 2 w ((H.next + 1, x) :: zax 5 u ((H.next, y) :: H.heap))))) = Am.look j H.heap := fun j j5 j3 j2 hj u v w x y z => by
   rw [za0, if_neg (Ne.symm j5), za0, if_neg (Ne.symm j3), za0, if_neg (Ne.symm j2), za2, if_neg (by omega), za0, if_neg (Ne.symm j5), za2, if_neg (by omega)]
  refine ⟨⟨y0q (y1a _) (y1a _), y0q (y1a _) (y1a _), fun j hj hlt => ?_⟩, rfl, ?_⟩
  ·exact hp5 j (by omega) (by omega) (by omega) hlt _ _ _ _ _ _
  ·refine ⟨by show 6 ≤ H.next + 1 + 1; omega, ⟨zcz ltm, ?_⟩, ?_, ?_, H.next + 1, H.clk + 1, by omega, y0k _, ?_, ?_⟩
   ·dsimp only [st]
    rw [za0, if_pos rfl]; rfl
   ·exact (hp5 4 (by decide) (by decide) (by decide) (by omega) _ _ _ _ _ _).trans h4
   ·dsimp only [st]
    rw [za0, if_neg (by decide), za0, if_pos rfl]; rfl
   ·dsimp only [st]
    rw [za0, if_neg (by decide), za0, if_neg (by decide), za0, if_pos rfl]; rfl
   ·dsimp only [st]
    rw [za0, if_neg (by omega), za0, if_neg (by omega), za0, if_neg (by omega), za2, if_pos rfl]
 ·have hik : i ≠ k := fun e => by
   subst e
   simp at hg
  rw [show (!decide (i = k)) = true by simp [hik]]
  refine onu (zb8 rfl (zab (zb7 ?_)))
  refine zaf ⟨25, zcz ltm, [16, 17], zmc, zme, (4, 4), ?_, none, rfl, ?_⟩
  ·dsimp only [st]
   rw [za0, if_pos rfl]
  have hp5 : ∀ j, j ≠ 5 → j < H.next → ∀ (u z y : Nat × AObj), Am.look j (zax 5 z (zax 5 u ((H.next, y) :: H.heap))) = Am.look j H.heap := fun j j5 hj u z y => by
   rw [za0, if_neg (Ne.symm j5), za0, if_neg (Ne.symm j5), za2, if_neg (by omega)]
  refine ⟨⟨y1a _, y1a _, fun j hj hlt => hp5 j (by omega) hlt _ _ _⟩, rfl, ?_⟩
  refine ⟨Nat.le_succ_of_le nx, ?_, (hp5 4 (by decide) (by omega) _ _ _).trans h4, (hp5 3 (by decide) (by omega) _ _ _).trans h3, (hp5 2 (by decide) (by omega) _ _ _).trans h2, (hp5 1 (by decide) (by omega) _ _ _).trans h1, (hp5 0 (by decide) (by omega) _ _ _).trans h0⟩
  dsimp only [st]
  rw [za0, if_pos rfl]; rfl
set_option maxHeartbeats 2000000 in
theorem ends65 {n : Nat} {l : List Sp} (ok : SeqOk n l) (hc : chkP (n : Nat) l = 0) (n4 : n ≤ 4) (k : Nat) (hk : k ≤ l.length) : PF Try.prog 65 [.agg (cQ (n : Nat) l), .int .i64 (k : Nat)] (.tup [vsB (zgy (List.replicate n false) (l.take k)), .int .i64 0]) := by
 have l64 := ok.l64
 have p1 := seq72 (n : Nat) l (by omega)
 rw [hc] at p1
 refine zb1 env0_ok fn65 [(0, .agg (cQ (n : Nat) l)), (1, .int .i64 (k : Nat))] (by show 2 ≤ 25; decide) rfl fun w0 N0 => ?_
 unfold ic65 cQ
 refine zsr rfl (zc1 rfl rfl (zc1 rfl rfl (zau (zau (onu (za8 (zsr rfl (zam rfl rfl rfl rfl ?_))))))))
 refine zap rfl rfl p1 noC ?_
 refine za1 rfl (onr rfl (za1 rfl (zci rfl rfl rfl (onu (zb8 rfl (zab (zaa (za8 (za8 ?_)))))))))
 refine za5 rfl (zam rfl rfl rfl rfl ?_)
 refine zap rfl rfl (along115 (n : Nat) l) noC ?_
 refine onu (zac ?_)
 refine zgu (.inl rfl) rfl fun ha hb => (along146 (local65 _ n k l) ok k hk (fun i H hi h => yield65 _ rfl rfl rfl rfl ok n4 k hk ha hb i H hi h) ⟨_, _, _⟩ ⟨y0c _, rfl, rfl, rfl, rfl, rfl, rfl⟩).mono fun v H2 hF => ?_
 obtain ⟨hK, nx, ⟨tm, h5⟩, h4, h3, q, s, hq6, hq, h2, hqv⟩ := hF
 refine ⟨_, _, .ret, _, _, _, _, _, _, h5, by simp, rfl, fun z hz => ?_, ?_⟩
 ·obtain rfl := y0e.1 hz
  rw [za3, if_neg (by decide)]; exact h4
 ·refine zag (za4 ?_)
  generalize zgy (List.replicate n false) (l.take k) = E at *
  refine zaf ⟨.inr rfl, .tup [.ms q s 1 0 E.length none, .int .i64 0], zvr (zd3 4) (zc4 (sp := 2) (cs := [.ms q s 1 0 E.length none]) ?_ ?_) (zd3 5) (zc4 (sp := 3) (cs := [.int .i64 0]) ?_ ?_), ?_⟩
  ·show Am.look 2 (zbe 4 (zbe 5 H2.heap)) = _
   rw [za3, if_neg (by decide), za3, if_neg (by decide)]; exact h2
  ·show 2 < H2.next; omega
  ·show Am.look 3 (zbe 4 (zbe 5 H2.heap)) = _
   rw [za3, if_neg (by decide), za3, if_neg (by decide)]; exact h3
  ·show 3 < H2.next; omega
  ·have := znd (S := ⟨0, .nil, zbe 4 (zbe 5 H2.heap), H2.next, H2.clk, []⟩) (d := VD - 2) (cap := none) (sp := s) (id := q) E [] (by
    show Am.look q (zbe 4 (zbe 5 H2.heap)) = _
    rw [za3, if_neg (by omega), za3, if_neg (by omega), y0p]; exact hqv)
   show AV.tup [_, _] = _
   exact congrArg (fun v => AV.tup [v, .int .i64 0]) this
def zhq (s : Sk) : Sp := ⟨[s], 0⟩
def zjd (s : Sk) : Sk := ⟨s.a, !s.o⟩
def zpa (H : List Sk) : List Sp := (H.reverse.map fun s => zhq (zjd s)) ++ H.map zhq
def WkS (f : List Ex) (n : Int) : List Bool → List Sp → Prop
 | _, [] => True
 | E, p :: r => (StpOk n E p ∧ SafeS f E p) ∧ WkS f n (aft E p.l) r
theorem zr5 {f : List Ex} {n : Int} : ∀ (x y : List Sp) (E : List Bool), WkS f n E x → WkS f n (zgy E x) y → WkS f n E (x ++ y)
 | [], _, _, _, h => h
 | _ :: x, y, _, h, h2 => ⟨h.1, zr5 x y _ h.2 h2⟩
theorem zwm {f : List Ex} {n : Int} : ∀ (l : List Sp) (E : List Bool), WkS f n E l → (zgy E l).any id = false → zqx n l E = 0
 | [], E, _, h => by
  have h : E.any id = false := h
  rw [zqx, h, if_neg Bool.false_ne_true]
 | p :: r, E, h, h2 => by
  obtain ⟨⟨⟨a, b, c⟩, _⟩, h3⟩ := h
  rw [zqx, if_neg (fun e => e a), if_neg (by rw [b]; decide), if_pos c]
  exact zwm r _ h3 h2
theorem WkS_dg {f : List Ex} {n : Int} : ∀ (l : List Sp) (k : Nat) (E : List Bool), WkS f n E l → (dgS f k E l).2.2 = false
 | [], _, _, _ => rfl
 | p :: r, k, E, h => by
  have hb : badP f (zeh (zfp E (aft E p.l) p.l E.length)) = none := List.find?_eq_none.2 fun q hq => by
   rw [h.1.2 q hq]
   decide
  rw [dgS, hb]
  exact WkS_dg r _ _ h.2
theorem zm0 {E : List Bool} {i : Nat} (b : Bool) (h : i < E.length) : (E.set i b).getD i false = b := by
 rw [y06, y2f h, y18]
theorem zq0 {E : List Bool} {i j : Nat} (b : Bool) (h : i ≠ j) : (E.set i b).getD j false = E.getD j false := by
 rw [y06, y1v h, ← y06]
theorem zy9 {E : List Bool} {a : Nat} {o : Bool} (ho : E.getD a false ≠ o) : E.set a o = zcq E a := by
 unfold zcq
 generalize E.getD a false = b at ho
 cases b <;> cases o <;> first | rfl | exact absurd rfl ho
theorem zy2 {q r : List Int} (hl : q.length = r.length) (h : ∀ i, i < q.length → q.getD i 0 = r.getD i 0) : q = r := by
 refine List.ext_getElem hl fun i h1 h2 => ?_
 have := h i h1
 rwa [y06, y06, y07 h1, y07 h2] at this
theorem one_ok {f : List Ex} {E : List Bool} {s : Sk} (h4 : E.length ≤ 4) (a0 : 0 ≤ s.a) (a1 : s.a < E.length) (ho : E.getD s.a.toNat false ≠ s.o) (hm : zqe f E s.a.toNat = true) : StpOk E.length E (zhq s) ∧ SafeS f E (zhq s) := by
 obtain ⟨a, o⟩ := s
 have a0 : 0 ≤ a := a0
 obtain ⟨a, rfl⟩ := Int.eq_ofNat_of_zero_le a0
 have a1 : (a : Int) < E.length := a1
 have al : a < E.length := by omega
 have ho : E.getD a false ≠ o := ho
 have hm : zqe f E a = true := hm
 refine ⟨⟨?_, ?_, ?_⟩, fun q hq => ?_⟩
 ·have hk : zi8 (a : Int) = true := by
   unfold zi8
   rw [decide_eq_true (by omega), decide_eq_true (by omega)]
   rfl
  have h1 : ((a : Int) == -1) = false := by simp only [beq_eq_false_iff_ne]; omega
  have hs : zkf (-1) [⟨(a : Int), o⟩] = 0 := by
   rw [zkf, hk, if_neg (by decide), if_neg (by rw [h1]; decide), if_neg (by simp only [decide_eq_true_eq]; omega)]
   rfl
  show spC ⟨[⟨(a : Int), o⟩], 0⟩ = 0
  unfold spC
  rw [if_neg (by show ¬ (1 = 0); decide), if_neg (by show ¬ (1 > 6); decide), hs]
  rfl
 ·show ([⟨(a : Int), o⟩] : List Sk).any _ = false
  simp only [List.any_cons, List.any_nil, Bool.or_false, decide_eq_false_iff_not]
  omega
 ·show ([⟨(a : Int), o⟩] : List Sk).all _ = true
  simp only [y26, List.all_nil, Bool.and_true, y0w]
  rw [beq_false_of_ne ho]
  rfl
 ·have hq : q ∈ zeh (zfp E (aft E [⟨(a : Int), o⟩]) [⟨(a : Int), o⟩] E.length) := hq
  have hF : aft E [⟨(a : Int), o⟩] = E.set a o := rfl
  rw [hF] at hq
  have hlq : q.length = E.length := (zpq _ q hq).trans (zgs ..)
  have g : ∀ i, i < E.length → q.getD i 0 ∈ zm4 E (E.set a o) [⟨(a : Int), o⟩] i := fun i hi => by
   have := zpp hq i (by rw [zgs]; exact hi)
   rwa [zvw hi] at this
  have hpl : (zdn E).length = E.length := zih E
  have go : ∀ i, i < E.length → i ≠ a → q.getD i 0 = (zdn E).getD i 0 := fun i hi hne => by
   have := g i hi
   unfold zm4 at this
   have hw : zix (i : Nat) [⟨(a : Int), o⟩] = 0 := zlu fun s hs => by
    rw [y0e.1 hs]
    show (a : Int) ≠ i
    omega
   rw [hw, if_neg (by decide), if_neg (by decide), zq0 o (fun e => hne e.symm), Bool.and_self] at this
   rw [y0e.1 this]
   exact (zy1 hi).symm
  have hset : ∀ v, q.getD a 0 = v → q = (zdn E).set a v := fun v hv => zy2 (by rw [y1c, hlq, hpl]) fun i hi => by
   rw [hlq] at hi
   by_cases e : i = a
   ·subst e
    rw [hv, y06, y2f (by rw [hpl]; exact hi), y18]
   ·rw [go i hi e, y06 (l := (zdn E).set a v), y1v (fun h => e h.symm), ← y06]
  have hself : (zdn E).set a (zj1 (E.getD a false)) = zdn E := zy2 (by rw [y1c]) fun i hi => by
   rw [y1c, hpl] at hi
   by_cases e : i = a
   ·subst e
    rw [y06, y2f (by rw [hpl]; exact hi), y18]
    exact (zy1 hi).symm
   ·rw [y06, y1v (fun h => e h.symm), ← y06]
  unfold zqe at hm
  simp only [y0h] at hm
  obtain ⟨⟨m1, m2⟩, m3⟩ := hm
  unfold zcq at m2
  rw [posE_set] at m2
  unfold wayE at m3
  have ga := g a al
  have hw : zix (a : Int) [⟨(a : Int), o⟩] = if o = true then 1 else -1 := by
   rw [zix, if_pos (beq_self_eq_true _)]
  unfold zm4 at ga
  rw [hw] at ga
  show zdw f q = true
  cases o with
  | true =>
   have hE : E.getD a false = false := by
    cases e : E.getD a false with
    | false => rfl
    | true => exact absurd e ho
   rw [hE] at m2 m3 hself
   rw [if_pos rfl, if_pos rfl] at ga
   rcases (show q.getD a 0 = 0 ∨ q.getD a 0 = 1 ∨ q.getD a 0 = 2 by simpa using ga) with e | e | e
   ·rw [hset _ e]
    exact (congrArg (zdw f) hself).trans m1
   ·rw [hset _ e]
    exact m3
   ·rw [hset _ e]
    exact m2
  | false =>
   have hE : E.getD a false = true := by
    cases e : E.getD a false with
    | false => exact absurd e ho
    | true => rfl
   rw [hE] at m2 m3 hself
   rw [if_neg Bool.false_ne_true, if_neg (by decide), if_pos rfl] at ga
   rcases (show q.getD a 0 = 2 ∨ q.getD a 0 = 3 ∨ q.getD a 0 = 0 by simpa using ga) with e | e | e
   ·rw [hset _ e]
    exact (congrArg (zdw f) hself).trans m1
   ·rw [hset _ e]
    exact m3
   ·rw [hset _ e]
    exact m2
theorem zoh : ∀ {E : List Bool}, zd9 E = 0 → E = List.replicate E.length false
 | [], _ => rfl
 | b :: e, h => by
  rw [zd9] at h
  cases b with
  | true => simp at h
  | false => rw [y0n, y25, ← zoh (E := e) (by rw [if_neg Bool.false_ne_true] at h; omega)]
theorem zns {f : List Ex} {s : Sk} {r : List Sk} {E : List Bool} (h : zpn f (s :: r) E = 0) : 0 ≤ s.a ∧ s.a < E.length ∧ E.getD s.a.toNat false ≠ s.o ∧ zqe f E s.a.toNat = true ∧ zpn f r (zcq E s.a.toNat) = 0 := by
 rw [zpn] at h
 split at h
 ·exact absurd h (by decide)
 rename_i h1
 split at h
 ·exact absurd h (by decide)
 rename_i h2
 split at h
 ·rename_i h3
  exact ⟨by omega, by omega, h2, h3, h⟩
 ·exact absurd h (by decide)
theorem zpo {f : List Ex} : ∀ (H : List Sk) (E : List Bool), E.length ≤ 4 → zpn f H E = 0 → WkS f E.length E (H.map zhq) ∧ zgy E (H.map zhq) = List.replicate E.length false
 | [], E, _, h => by
  rw [zpn] at h
  split at h
  ·rename_i h1
   exact ⟨trivial, zoh h1⟩
  ·exact absurd h (by decide)
 | s :: r, E, h4, h => by
  obtain ⟨a0, a1, ho, hm, hc⟩ := zns h
  have hl := zd8 E s.a.toNat
  obtain ⟨i1, i2⟩ := zpo r _ (by rw [hl]; exact h4) hc
  rw [hl] at i1 i2
  have he : aft E (zhq s).l = zcq E s.a.toNat := zy9 ho
  refine ⟨⟨one_ok h4 a0 a1 ho hm, ?_⟩, ?_⟩
  ·rw [he]
   exact i1
  ·show zgy (aft E (zhq s).l) (r.map zhq) = _
   rw [he]
   exact i2
theorem znr {f : List Ex} : ∀ (H : List Sk) (E : List Bool), 1 ≤ E.length → E.length ≤ 4 → zpn f H E = 0 → WkS f E.length (List.replicate E.length false) (H.reverse.map fun s => zhq (zjd s)) ∧ zgy (List.replicate E.length false) (H.reverse.map fun s => zhq (zjd s)) = E
 | [], E, _, _, h => by
  rw [zpn] at h
  split at h
  ·rename_i h1
   exact ⟨trivial, (zoh h1).symm⟩
  ·exact absurd h (by decide)
 | s :: r, E, h1, h4, h => by
  obtain ⟨a0, a1, ho, hm, hc⟩ := zns h
  have hl := zd8 E s.a.toNat
  obtain ⟨i1, i2⟩ := znr r _ (by rw [hl]; exact h1) (by rw [hl]; exact h4) hc
  rw [hl] at i1 i2
  have ai : s.a.toNat < E.length := by omega
  have hg : (zcq E s.a.toNat).getD s.a.toNat false = !(E.getD s.a.toNat false) := zm0 _ ai
  have ho2 : (zcq E s.a.toNat).getD (zjd s).a.toNat false ≠ (zjd s).o := fun e => by
   have e : (zcq E s.a.toNat).getD s.a.toNat false = !s.o := e
   rw [hg] at e
   exact ho (Bool.not_inj e)
  have k := one_ok (f := f) (E := zcq E s.a.toNat) (s := zjd s) (by rw [hl]; exact h4) a0 (by rw [hl]; exact a1) ho2 ((ztx f h1 h4 ai).trans hm)
  rw [hl] at k
  have he : aft (zcq E s.a.toNat) (zhq (zjd s)).l = E := (zy9 ho2).trans (zpy h1 h4 ai)
  rw [List.reverse_cons, y22]
  refine ⟨zr5 _ _ _ i1 (by rw [i2]; exact ⟨k, trivial⟩), ?_⟩
  unfold zgy at i2 ⊢
  rw [List.foldl_append, i2]
  exact he
theorem ztg {f : List Ex} {H : List Sk} {E : List Bool} (h1 : 1 ≤ E.length) (h4 : E.length ≤ 4) (h : zpn f H E = 0) : WkS f E.length (List.replicate E.length false) (zpa H) ∧ zgy (List.replicate E.length false) (zpa H) = List.replicate E.length false := by
 obtain ⟨b1, b2⟩ := znr H E h1 h4 h
 obtain ⟨f1, f2⟩ := zpo H E h4 h
 refine ⟨zr5 _ _ _ b1 (by rw [b2]; exact f1), ?_⟩
 unfold zpa
 unfold zgy at b2 f2 ⊢
 rw [List.foldl_append, b2, f2]
theorem cyc_ends {f : List Ex} {H : List Sk} {E : List Bool} (h1 : 1 ≤ E.length) (h4 : E.length ≤ 4) (h : zpn f H E = 0) : zgy (List.replicate E.length false) ((zpa H).take H.length) = E := by
 unfold zpa
 rw [List.take_left' (by rw [y09, List.length_reverse])]
 exact (znr H E h1 h4 h).2
theorem zrm (H : List Sk) : (zpa H).length = H.length + H.length := by
 unfold zpa
 rw [y0j, y09, y09, List.length_reverse]
def mvsB (n : Nat) (H : List Sk) : Bool := (List.range n).all fun i => H.any fun s => s.a == (i : Nat)
theorem zu0 (a : Int) : ∀ l : List Sp, ztz a l = l.any fun p => zix a p.l != 0
 | [] => rfl
 | p :: r => by
  rw [ztz, List.any_cons, zu0 a r]
  cases zix a p.l != 0 <;> simp
theorem yar (a : Int) (s : Sk) : (zix a [s] != 0) = (s.a == a) := by
 rw [zix]
 cases s.a == a with
 | false => rfl
 | true => rw [if_pos rfl]; cases s.o <;> rfl
theorem cyc_mov (a : Int) (H : List Sk) : ztz a (zpa H) = H.any fun s => s.a == a := by
 rw [zu0]
 unfold zpa
 rw [List.any_append, List.any_map, List.any_map, List.any_reverse]
 have e1 : (fun s => (fun p : Sp => zix a p.l != 0) (zhq (zjd s))) = fun s : Sk => s.a == a := funext fun s => yar a (zjd s)
 have e2 : ((fun p : Sp => zix a p.l != 0) ∘ zhq) = fun s : Sk => s.a == a := funext fun s => yar a s
 have e1 : ((fun p : Sp => zix a p.l != 0) ∘ fun s => zhq (zjd s)) = fun s : Sk => s.a == a := e1
 rw [e1, e2, Bool.or_self]
theorem zxu {f : List Ex} {H : List Sk} {E : List Bool} (h1 : 1 ≤ E.length) (h4 : E.length ≤ 4) (h32 : H.length ≤ 32) (h : zpn f H E = 0) : zte E.length (zpa H) = if H.length = 0 then 13 else if mvsB E.length H = true then 0 else 13 := by
 obtain ⟨w, b⟩ := ztg h1 h4 h
 have hs : zqx E.length (zpa H) (List.replicate E.length false) = 0 := zwm _ _ w (by rw [b]; exact (zgx _).2 (by rw [y11]))
 unfold zte
 rw [if_neg (by omega), zrm, y0w, hs]
 by_cases h0 : H.length = 0
 ·rw [if_pos (by omega), if_pos h0]
 ·rw [if_neg (by omega), if_neg (by omega), if_neg (fun e => e rfl), if_neg h0]
  have : ((List.range E.length).all fun i => ztz (i : Nat) (zpa H)) = mvsB E.length H := by
   unfold mvsB
   refine congrArg (fun z => (List.range E.length).all z) (funext fun i => cyc_mov _ H)
  rw [this]
theorem cyc_dg {f : List Ex} {H : List Sk} {E : List Bool} (h1 : 1 ≤ E.length) (h4 : E.length ≤ 4) (h : zpn f H E = 0) : (dgS f 0 (List.replicate E.length false) (zpa H)).2.2 = false := WkS_dg _ _ _ (ztg h1 h4 h).1
theorem zvd {f : List Ex} {E : List Bool} (h1 : 1 ≤ E.length) (h4 : E.length ≤ 4) (hg : zcc f E.length = 0) : zpw f E = .tup [.vs [], .int .i64 6] ∨ zpw f E = .tup [.vs [], .int .i64 22] ∨ ∃ H : List Sk, zpw f E = .tup [.vs (cSs H), .int .i64 0] ∧ zpn f H E = 0 ∧ H.length ≤ 16 := by
 unfold zpw
 rw [if_pos hg]
 split
 ·split
  ·exact .inl rfl
  ·rename_i h2
   refine .inr (.inr ⟨_, rfl, ?_, ?_⟩)
   ·have := zq4 h1 h4 (zs6 (l := f) h1 h4) ((zok f E.length).getD (zd9 E) 0).toNat (zd9 E) (ztp h1 h4) (by omega)
    rwa [zt7 h1 h4] at this
   ·have a := zq5 f E.length (zok f E.length) ((zok f E.length).getD (zd9 E) 0).toNat (zd9 E)
    have b := (zs6 (l := f) h1 h4).hi (zd9 E) (ztp h1 h4)
    have c : (2 : Nat) ^ E.length ≤ 2 ^ 4 := Nat.pow_le_pow_right (by decide) h4
    omega
 ·exact .inr (.inl rfl)
def rows69 : List (List AV × AV) := ((List.range 4).flatMap fun a => [(⟨(a : Nat), false⟩ : Sk), ⟨(a : Nat), true⟩]).map fun s => ([.agg (cS s)], .tup [.agg (cS (zjd s)), .int .i64 0])
def rows73 : List (List AV × AV) := allE.map fun e => ([vsB e, vsB e], .bool true)
def tabC : Tab := [(69, rows69), (73, rows73)]
theorem yah : TabOk Try.prog tabC := TabOk.of_run (env0_ok.tab TabOk.nil (pure := [])) (n := 90) (by kernel_rfl)
theorem opp69 {s : Sk} (h0 : 0 ≤ s.a) (h4 : s.a < 4) : PF Try.prog 69 [.agg (cS s)] (.tup [.agg (cS (zjd s)), .int .i64 0]) := by
 refine yah _ (y05 ..) ([.agg (cS s)], _) (y0o.2 ⟨s, y2g.2 ⟨s.a.toNat, y10.2 (by omega), ?_⟩, rfl⟩)
 obtain ⟨a, o⟩ := s
 have h0 : 0 ≤ a := h0
 have e : ((a.toNat : Nat) : Int) = a := Int.toNat_of_nonneg h0
 show (⟨a, o⟩ : Sk) ∈ [(⟨((a.toNat : Nat) : Int), false⟩ : Sk), ⟨((a.toNat : Nat) : Int), true⟩]
 rw [e]
 cases o
 ·exact y05 ..
 ·exact y04 _ (y05 ..)
theorem equal73 {e : List Bool} (h1 : 1 ≤ e.length) (h4 : e.length ≤ 4) : PF Try.prog 73 [vsB e, vsB e] (.bool true) :=
 yah _ (y04 _ (y05 ..)) ([vsB e, vsB e], _) (y0o.2 ⟨e, zdi e h1 h4, rfl⟩)
-- pneumatic/pneumatictop.TopHomeCycle$1
def ic71 : IC := .seq (.region [oM 2 (.box (.t 0)),
  oM 3 (.mov (.c (.bool false)))] none)
 (.seq (.region [oF 4 0 2,
  oN 5 4,
  oN 6 1,
  oM 7 (.bin .eql (.t 5) (.t 6)),
  oT 3 7] none)
 (.ret))
theorem fn71 : env0.fn 71 = some ⟨8, ic71, [.t 3]⟩ := by kernel_rfl
theorem is71 (s : Sk) (i : Int) : PF Try.prog 71 [.agg (cS s), .vptr [.int .i64 i]] (.bool (s.a == i)) := by
 refine zb1 env0_ok fn71 [(0, .agg (cS s)), (1, .vptr [.int .i64 i])] (by show 2 ≤ 8; decide) rfl fun w0 N0 => ?_
 unfold ic71 cS
 refine zsr rfl (zc1 rfl rfl (za1 rfl (onr rfl (za9 rfl (za7 rfl rfl (za7 rfl rfl ?_))))))
 refine zaq rfl rfl rfl (fun h => ?_) fun h => ?_
 all_goals
  rw [h]
  refine za1 rfl (onu (zak ?_))
  exact zaf ⟨.inr rfl, _, rfl, rfl⟩
def ixA (i : Int) : List Sk → Int → Int
 | [], _ => -1
 | s :: r, b => if (s.a == i) = true then b else ixA i r (b + 1)
theorem zyz (i : Int) : ∀ (l : List Sk) (b : Int), 0 ≤ b → decide (ixA i l b ≥ 0) = l.any fun s => s.a == i
 | [], b, _ => rfl
 | s :: r, b, h => by
  rw [ixA, List.any_cons]
  cases e : s.a == i with
  | true => rw [if_pos rfl, Bool.true_or]; exact decide_eq_true h
  | false => rw [if_neg (by decide), Bool.false_or]; exact zyz i r (b + 1) (by omega)
set_option maxHeartbeats 2000000 in
theorem zyv (H : List Sk) (hl : H.length ≤ 1000000) (i : Int) : PF Try.prog 119 [.vs (cSs H), .fn 71 [] [.vptr [.int .i64 i]]] (.int .i64 (ixA i H 0)) := by
 have hcl : (cSs H).length = H.length := zc3 H
 refine zb1 env0_ok fn119 [(0, .vs (cSs H)), (1, .fn 71 [] [.vptr [.int .i64 i]])] (by show 2 ≤ 19; decide) rfl fun w0 N0 => ?_
 unfold ic119
 refine zsr rfl (za1 rfl (onu (za8 (zsr rfl (za1 rfl (zbd rfl rfl (za1 rfl (onu (zac ?_)))))))))
 rw [hcl]
 refine zbu (fun mm S => ∃ j, mm = H.length - j ∧ j ≤ H.length ∧ ixA i H 0 = ixA i (H.drop j) (j : Nat) ∧ S = st 19 [(0, .vs (cSs H)), (1, .fn 71 [] [.vptr [.int .i64 i]]), (7, .int .i64 (H.length : Nat)), (8, .int .i64 (j : Nat))] [] 0 1) H.length
  (ze3 (.cons rfl (.same rfl) (.cons rfl (.same rfl) (.cons rfl (.same rfl) (.cons rfl (.same rfl) .nil))))) ⟨0, rfl, y0t _, rfl, rfl⟩ ?_
 rintro mm S ⟨j, rfl, hj, hfx, rfl⟩
 unfold zwx
 refine zsr rfl ?_
 refine zaq rfl rfl rfl (fun h3 => ?_) fun h3 => ?_
 ·have hlt : j < H.length := by have := of_decide_eq_true h3; omega
  rw [y0g hlt, ixA] at hfx
  have hge := zdo (l := H) hlt
  generalize H[j] = s at hfx hge
  have h71 := is71 s i
  repeat (first | refine za8 ?_ | refine za5 rfl ?_ | refine zai ?_ | refine zaa ?_ | refine zac ?_ | refine zab ?_ | refine zb4 rfl ?_ | refine za1 rfl ?_ | refine zam rfl rfl rfl rfl ?_ | refine zbh rfl rfl (by omega) (by assumption) rfl ?_)
  refine zjc rfl rfl rfl h71 noC ?_
  cases hp : s.a == i with
  | true =>
   rw [hp, if_pos rfl] at hfx
   rw [hfx]
   refine onu (zb4 rfl (zsr rfl (za1 rfl (za1 rfl (onu (zak (zag (za4 ?_))))))))
   refine zbb ?_
   refine zag (za4 ?_)
   exact zaf ⟨.inr rfl, _, rfl, rfl⟩
  | false =>
   rw [hp, if_neg (by decide)] at hfx
   refine onu (zb8 rfl (zab (zb7 (zaa (za5 rfl (zb6 (op := .add) rfl rfl rfl (za1 rfl (zai ?_))))))))
   rw [zas j (by omega)]
   exact zav (show H.length - (j + 1) < H.length - j by omega) (ze3 (.cons rfl (.same rfl) (.cons rfl (.same rfl) (.cons rfl (.same rfl) (.cons rfl (.same rfl) .nil))))) ⟨j + 1, rfl, hlt, hfx, rfl⟩
 ·have hj2 : j = H.length := by have := of_decide_eq_false h3; omega
  subst hj2
  rw [y0s, ixA] at hfx
  rw [hfx]
  refine onu (za8 (zb8 rfl (zbm (zao ?_))))
  refine zcn ?_
  refine zbl (zaa (zsr rfl (za1 rfl (onu (zak ?_)))))
  exact zaf ⟨.inr rfl, _, rfl, rfl⟩
-- slices.ContainsFunc[[]pneumatic/api.Stroke,pneumatic/api.Stroke]
def ic70 : IC := .seq (.region [oM 4 (.mov (.c (.bool false)))] none)
 (.seq (.region [oT 5 0,
  oT 6 1,
  oM 7 (.call (.c (.fn 119 [] [])) [(.t 5), (.t 6)]),
  oM 8 (.bin .geq (.t 7) (.c (.int .i64 0))),
  oT 4 8] none)
 (.ret))
theorem fn70 : env0.fn 70 = some ⟨9, ic70, [.t 4]⟩ := by kernel_rfl
theorem zv8 (H : List Sk) (hl : H.length ≤ 1000000) (i : Int) : PF Try.prog 70 [.vs (cSs H), .fn 71 [] [.vptr [.int .i64 i]]] (.bool (H.any fun s => s.a == i)) := by
 have h1 := zyv H hl i
 refine zb1 env0_ok fn70 [(0, .vs (cSs H)), (1, .fn 71 [] [.vptr [.int .i64 i]])] (by show 2 ≤ 9; decide) rfl fun w0 N0 => ?_
 unfold ic70
 refine zsr rfl (za1 rfl (onr rfl (za1 rfl (za1 rfl ?_))))
 refine zap rfl rfl h1 noC ?_
 refine zb6 (op := .geq) rfl rfl rfl ?_
 rw [zyz i H 0 (y2i 0)]
 refine za1 rfl (onu (zak ?_))
 exact zaf ⟨.inr rfl, _, rfl, rfl⟩
-- slices.Backward[[]pneumatic/api.Stroke,pneumatic/api.Stroke]
def ic68 : IC := .seq (.region [oM 1 (.box (.t 0)),
  oM 2 (.mov (.c (.nilf)))] none)
 (.seq (.region [oM 3 (.mkfn 117 [] [(.t 1)]),
  oT 2 3] none)
 (.ret))
theorem fn68 : env0.fn 68 = some ⟨4, ic68, [.t 2]⟩ := by kernel_rfl
theorem zux (H : List Sk) : PF Try.prog 68 [.vs (cSs H)] (.fn 117 [] [.vptr [.vs (cSs H)]]) := by
 refine zb1 env0_ok fn68 [(0, .vs (cSs H))] (by show 1 ≤ 4; decide) rfl fun w0 N0 => ?_
 unfold ic68
 refine zsr rfl (zc1 rfl rfl (za1 rfl (onr rfl (zfk rfl rfl (za1 rfl (onu (zak ?_)))))))
 exact zaf ⟨.inr rfl, _, rfl, rfl⟩
def b117_0 : IC := .seq (.seq (.region [oT 7 3,
  oM 8 (.bin .geq (.t 7) (.c (.int .i64 0)))] none)
 (.cond (.t 8) (.skip)
 (.exit 0)))
 (.seq (.block 1 (.seq (.region [oT 11 0,
  oT 12 3,
  oN 13 1,
  oT 14 3,
  oM 15 (.idxs 2 (.t 13) (.t 14)),
  oL 16 2 15,
  oM 17 (.call (.t 11) [(.t 12), (.t 16)]),
  oM 18 (.un .not (.t 17))] none)
 (.cond (.t 18) (.ret)
 (.skip))))
 (.region [oT 9 3,
  oM 10 (.bin .sub (.t 9) (.c (.int .i64 1))),
  oT 3 10] none))
-- slices.Backward[[]pneumatic/api.Stroke,pneumatic/api.Stroke]$1
def ic117 : IC := .seq (.region [oN 4 1,
  oM 5 (.len false (.t 4)),
  oM 6 (.bin .sub (.t 5) (.c (.int .i64 1))),
  oT 3 6] none)
 (.block 0 (.loop b117_0))
theorem fn117 : env0.fn 117 = some ⟨19, ic117, []⟩ := by kernel_rfl
noncomputable def zgh : Code := match env0.fn 14 with
 | some i => ((zbs i.ic)[0]?.getD (.skip, .skip)).1
 | none => .skip
noncomputable def zgi : Code := match env0.fn 14 with
 | some i => ((zbs i.ic)[0]?.getD (.skip, .skip)).2
 | none => .skip
def b14_2 : IC := .seq (.region [oM 90 (.bin .lss (.t 89) (.t 88))] none)
 (.seq (.cond (.t 90) (.skip)
 (.exit 2))
 (.seq (.block 3 (.seq (.region [oM 91 (.idxs 2 (.t 87) (.t 89)),
  oL 92 2 91,
  oM 14 (.alloc [.int .i64 0, .bool false]),
  ⟨none, .store 2 (.t 14) (.t 92), none⟩] none)
 (.region [oF 93 1 8,
  oN 94 93,
  oL 95 2 14,
  oM 96 (.bslice 2 1 [.int .i64 0, .bool false] [(0, 2, (.t 95))]),
  oM 97 (.build [.nils, .int .i64 0] [(0, 1, (.t 96))]),
  oM 98 (.bslice 2 1 [.nils, .int .i64 0] [(0, 2, (.t 97))]),
  oM 99 (.append 2 32 [.nils, .int .i64 0] (.t 94) (.t 98)),
  oF 100 1 8,
  ⟨none, .store 1 (.t 100) (.t 99), none⟩] none)))
 (.region [oM 101 (.bin .add (.t 89) (.c (.int .i64 1))),
  oT 89 101] none)))
def b14_4 : IC := .seq (.region [oM 104 (.bin .lss (.t 103) (.t 102))] none)
 (.seq (.cond (.t 104) (.skip)
 (.exit 4))
 (.seq (.block 5 (.seq (.region [oT 105 103,
  oM 16 (.alloc [.int .i64 0]),
  ⟨none, .store 1 (.t 16) (.t 105), none⟩] none)
 (.region [oT 106 15,
  oT 107 106,
  ⟨(some 108), .mov (.t 6), some (107, true)⟩,
  ⟨(some 109), .mkfn 71 [] [(.t 16)], some (107, true)⟩,
  ⟨(some 110), .call (.c (.fn 70 [] [])) [(.t 108), (.t 109)], some (107, true)⟩,
  oM 111 (.pick (.t 107) (.t 110) (.c (.bool false))),
  oT 15 111] none)))
 (.region [oM 112 (.bin .add (.t 103) (.c (.int .i64 1))),
  oT 103 112] none)))
def zr8 : IC := .region [oM 10 (.alloc [.int .i64 0, .bool false]),
  ⟨none, .store 2 (.t 10) (.t 71), none⟩] none
def zzr : IC := .block 1 (.seq (.region [oL 73 2 10,
  oM 74 (.call (.c (.fn 69 [] [])) [(.t 73)]),
  oT 72 74,
  oM 75 (.extract (.t 72) 0),
  oM 76 (.extract (.t 72) 1),
  oM 11 (.alloc [.int .i64 0, .bool false]),
  ⟨none, .store 2 (.t 11) (.t 75), none⟩,
  oT 12 76] none)
 (.seq (.seq (.region [oT 77 12,
  oM 78 (.bin .neq (.t 77) (.c (.int .i64 0)))] none)
 (.cond (.t 78) (.seq (.region [⟨none, .store 1 (.t 4) (.c (.bool false)), none⟩] none)
 (.ret))
 (.skip)))
 (.region [oF 79 1 8,
  oN 80 79,
  oL 81 2 11,
  oM 82 (.bslice 2 1 [.int .i64 0, .bool false] [(0, 2, (.t 81))]),
  oM 83 (.build [.nils, .int .i64 0] [(0, 1, (.t 82))]),
  oM 84 (.bslice 2 1 [.nils, .int .i64 0] [(0, 2, (.t 83))]),
  oM 85 (.append 2 32 [.nils, .int .i64 0] (.t 80) (.t 84)),
  oF 86 1 8,
  ⟨none, .store 1 (.t 86) (.t 85), none⟩] none)))
-- pneumatic/pneumatictop.TopHomeCycle
noncomputable def ic14 : IC := .seq (.region [oM 2 (.box (.t 0)),
  oM 4 (.alloc [.bool false])] none)
 (.seq (.region [oT 23 1,
  oM 24 (.len false (.t 23)),
  oT 5 24] none)
 (.seq (.seq (.region [oT 25 5,
  oM 26 (.bin .lss (.t 25) (.c (.int .i64 1))),
  oT 27 26,
  ⟨(some 28), .mov (.t 5), some (27, false)⟩,
  ⟨(some 29), .bin .gtr (.t 28) (.c (.int .i64 4)), some (27, false)⟩,
  oM 30 (.pick (.t 27) (.c (.bool true)) (.t 29)),
  oT 31 30,
  ⟨(some 32), .faddr 0 (.t 2), some (31, false)⟩,
  ⟨(some 33), .load none (.t 32), some (31, false)⟩,
  ⟨(some 34), .len false (.t 33), some (31, false)⟩,
  ⟨(some 35), .bin .gtr (.t 34) (.c (.int .i64 8)), some (31, false)⟩,
  oM 36 (.pick (.t 31) (.c (.bool true)) (.t 35)),
  oT 37 36,
  ⟨(some 38), .load (some 1) (.t 2), some (37, false)⟩,
  ⟨(some 39), .call (.c (.fn 15 [] [])) [(.t 38)], some (37, false)⟩,
  ⟨(some 40), .un .not (.t 39), some (37, false)⟩,
  oM 41 (.pick (.t 37) (.c (.bool true)) (.t 40)),
  oT 42 41,
  ⟨(some 43), .load (some 1) (.t 2), some (42, false)⟩,
  ⟨(some 44), .mov (.t 5), some (42, false)⟩,
  ⟨(some 45), .call (.c (.fn 67 [] [])) [(.t 43), (.t 44)], some (42, false)⟩,
  ⟨(some 46), .bin .neq (.t 45) (.c (.int .i64 0)), some (42, false)⟩,
  oM 47 (.pick (.t 42) (.c (.bool true)) (.t 46))] none)
 (.cond (.t 47) (.seq (.region [oM 48 (.call (.c (.fn 63 [] [])) []),
  ⟨none, .store 1 (.t 4) (.t 48), none⟩] none)
 (.ret))
 (.skip)))
 (.seq (.region [oL 50 1 2,
  oT 51 1,
  oM 52 (.call (.c (.fn 37 [] [])) [(.t 50), (.t 51)]),
  oT 49 52,
  oM 53 (.extract (.t 49) 0),
  oM 54 (.extract (.t 49) 1),
  oT 6 53,
  oT 7 54] none)
 (.seq (.seq (.region [oT 55 7,
  oM 56 (.bin .neq (.t 55) (.c (.int .i64 0)))] none)
 (.cond (.t 56) (.seq (.region [oT 57 7,
  oM 58 (.bin .eql (.t 57) (.c (.int .i64 22))),
  oT 59 58,
  ⟨(some 60), .mov (.t 7), some (59, false)⟩,
  ⟨(some 61), .bin .eql (.t 60) (.c (.int .i64 6)), some (59, false)⟩,
  oM 62 (.pick (.t 59) (.c (.bool true)) (.t 61)),
  oT 63 62,
  ⟨(some 64), .call (.c (.fn 63 [] [])) [], some (63, true)⟩,
  oM 65 (.pick (.t 63) (.t 64) (.c (.bool false))),
  ⟨none, .store 1 (.t 4) (.t 65), none⟩] none)
 (.ret))
 (.skip)))
 (.seq (.region [oT 66 5,
  oM 67 (.build [.int .i64 0, .nils] [(0, 1, (.t 66))]),
  oM 8 (.alloc [.int .i64 0, .nils]),
  ⟨none, .store 2 (.t 8) (.t 67), none⟩] none)
 (.seq (.seq (.region [oT 68 6,
  oM 69 (.call (.c (.fn 68 [] [])) [(.t 68)])] none)
 (.block 0 (.rangeFunc (.t 69) [70, 71] zgh zgi zr8 zzr)))
 (.seq (.seq (.region [oT 87 6,
  oM 88 (.len false (.t 87)),
  oM 89 (.mov (.c (.int .i64 0)))] none)
 (.block 2 (.loop b14_2)))
 (.seq (.region [oM 15 (.mov (.c (.bool true)))] none)
 (.seq (.seq (.region [oT 102 5,
  oM 103 (.mov (.c (.int .i64 0)))] none)
 (.block 4 (.loop b14_4)))
 (.seq (.seq (.region [oL 113 2 8,
  oM 114 (.call (.c (.fn 72 [] [])) [(.t 113)]),
  oT 17 114] none)
 (.seq (.region [oT 115 15,
  oM 116 (.un .not (.t 115)),
  oT 117 116,
  ⟨(some 118), .mov (.t 6), some (117, false)⟩,
  ⟨(some 119), .len false (.t 118), some (117, false)⟩,
  ⟨(some 120), .bin .eql (.t 119) (.c (.int .i64 0)), some (117, false)⟩,
  oM 121 (.pick (.t 117) (.c (.bool true)) (.t 120))] none)
 (.cond (.t 121) (.seq (.region [oT 122 17,
  oM 123 (.bin .eql (.t 122) (.c (.int .i64 13))),
  oT 124 123,
  ⟨(some 125), .call (.c (.fn 63 [] [])) [], some (124, true)⟩,
  oM 126 (.pick (.t 124) (.t 125) (.c (.bool false))),
  ⟨none, .store 1 (.t 4) (.t 126), none⟩] none)
 (.ret))
 (.skip))))
 (.seq (.region [oL 128 2 8,
  oT 129 6,
  oM 130 (.len false (.t 129)),
  oM 131 (.call (.c (.fn 65 [] [])) [(.t 128), (.t 130)]),
  oT 127 131,
  oM 132 (.extract (.t 127) 0),
  oM 133 (.extract (.t 127) 1),
  oT 18 132,
  oT 7 133] none)
 (.seq (.region [oL 135 1 2,
  oL 136 2 8,
  oM 137 (.call (.c (.fn 18 [] [])) [(.t 135), (.t 136)]),
  oT 134 137,
  oM 138 (.extract (.t 134) 0),
  oM 139 (.extract (.t 134) 1),
  oM 140 (.extract (.t 134) 2),
  oM 141 (.extract (.t 134) 3),
  oT 19 138,
  oT 20 139,
  oT 21 140,
  oT 22 141] none)
 (.seq (.region [oT 142 7,
  oT 143 22,
  oM 144 (.bin .add (.t 142) (.t 143)),
  oM 145 (.bin .eql (.t 144) (.c (.int .i64 0))),
  oT 146 145,
  ⟨(some 147), .mov (.t 18), some (146, true)⟩,
  ⟨(some 148), .mov (.t 1), some (146, true)⟩,
  ⟨(some 149), .call (.c (.fn 73 [] [])) [(.t 147), (.t 148)], some (146, true)⟩,
  oM 150 (.pick (.t 146) (.t 149) (.c (.bool false))),
  oT 151 150,
  ⟨(some 152), .mov (.t 21), some (151, true)⟩,
  ⟨(some 153), .un .not (.t 152), some (151, true)⟩,
  oM 154 (.pick (.t 151) (.t 153) (.c (.bool false))),
  oT 155 154,
  ⟨(some 156), .call (.c (.fn 63 [] [])) [], some (155, true)⟩,
  oM 157 (.pick (.t 155) (.t 156) (.c (.bool false))),
  ⟨none, .store 1 (.t 4) (.t 157), none⟩] none)
 (.ret))))))))))))))
theorem fn14 : env0.fn 14 = some ⟨158, ic14, [.cell 4 none]⟩ := by kernel_rfl
structure Sq14 (n : Nat) (L : List Sp) (hp : List (Nat × Nat × AObj)) (nx : Nat) : Prop where
 res : Am.look 0 hp = some (0, .cells [.bool false])
 lst : ∃ s, Am.look 1 hp = some (0, .cells [.int .i64 (n : Nat), .ms 2 s 2 0 L.length none]) ∧ Am.look 2 hp = some (s, .cells (cPs L).flatten)
 nx2 : 2 < nx
section
variable {n : Nat} {L : List Sp} {hp : List (Nat × Nat × AObj)} {nx : Nat}
theorem Sq14.fresh (h : Sq14 n L hp nx) (x : Nat × AObj) : Sq14 n L ((nx, x) :: hp) (nx + 1) := by
 have h2 := h.nx2
 obtain ⟨s, a, b⟩ := h.lst
 exact ⟨by rw [za2, if_neg (by omega)]; exact h.res, ⟨s, by rw [za2, if_neg (by omega)]; exact a, by rw [za2, if_neg (by omega)]; exact b⟩, by omega⟩
theorem Sq14.put (h : Sq14 n L hp nx) {j : Nat} (hj : 2 < j) (x : Nat × AObj) : Sq14 n L (zax j x hp) nx := by
 obtain ⟨s, a, b⟩ := h.lst
 exact ⟨by rw [za0, if_neg (by omega)]; exact h.res, ⟨s, by rw [za0, if_neg (by omega)]; exact a, by rw [za0, if_neg (by omega)]; exact b⟩, h.nx2⟩
theorem Sq14.drop (h : Sq14 n L hp nx) {j : Nat} (hj : 2 < j) : Sq14 n L (zbe j hp) nx := by
 obtain ⟨s, a, b⟩ := h.lst
 exact ⟨by rw [za3, if_neg (by omega)]; exact h.res, ⟨s, by rw [za3, if_neg (by omega)]; exact a, by rw [za3, if_neg (by omega)]; exact b⟩, h.nx2⟩
theorem zjr (L : List Sp) : (cPs L).flatten.length = L.length * 2 := by
 induction L with
 | nil => rfl
 | cons e q ih =>
  show (cP e ++ (cPs q).flatten).length = _
  rw [y0j, ih]
  show 2 + q.length * 2 = (q.length + 1) * 2
  omega
theorem zt8 (L : List Sp) (p : Sp) : (cPs L).flatten ++ [cP p].flatten = (cPs (L ++ [p])).flatten := by
 unfold cPs
 rw [y22, List.flatten_append]
 rfl
theorem Sq14.app (h : Sq14 n L hp nx) (ck : Nat) (p : Sp) : Sq14 n (L ++ [p]) (zax 1 (0, .cells [.int .i64 (n : Nat), .ms 2 ck 2 0 (L.length + 1) none]) (zax 2 (ck, .cells (cPs (L ++ [p])).flatten) hp)) nx :=
 ⟨by rw [za0, if_neg (by decide), za0, if_neg (by decide)]; exact h.res, ⟨ck, by rw [za0, if_pos rfl, y0j]; rfl, by rw [za0, if_neg (by decide), za0, if_pos rfl]⟩, h.nx2⟩
end
def zm2 (H : List Sk) (k : Nat) : List Sp := (H.drop k).reverse.map fun s => zhq (zjd s)
theorem revL_all (H : List Sk) : zm2 H H.length = [] := by
 unfold zm2
 rw [y0s]
 rfl
theorem zzy {H : List Sk} {k : Nat} (h : k < H.length) : zm2 H k = zm2 H (k + 1) ++ [zhq (zjd H[k])] := by
 unfold zm2
 rw [y0g h, List.reverse_cons, y22]
 rfl
theorem zuf (H : List Sk) (k : Nat) : (zm2 H k).length = H.length - k := by
 unfold zm2
 rw [y09, List.length_reverse, List.length_drop]
structure Qq14 (n s3 s4 : Nat) (ltm : List (Nat × AV)) (stt : LoopState) (L : List Sp) (H : HS) : Prop where
 sq : Sq14 n L H.heap H.next
 h3 : Am.look 3 H.heap = some (s3, .deferred)
 h4 : Am.look 4 H.heap = some (s4, .loop stt none 158 (zcz ltm) [70, 71] zgh zgi (3, s3))
 nx : 4 < H.next
set_option maxHeartbeats 2000000 in
theorem range117 {w0 : World} {N0 n s3 s4 : Nat} {ltm : List (Nat × AV)} (C : List Sk) (hC : C.length ≤ 100)
  (hy : ∀ (k : Nat) (hk : k < C.length) (H : HS), Qq14 n s3 s4 ltm .ready (zm2 C (k + 1)) H →
   CT Try.prog w0 N0 (.yield 4 s4) [.int .i64 (k : Nat), .agg (cS C[k])] H fun v H' => v = .bool true ∧ Qq14 n s3 s4 ltm .ready (zm2 C k) H')
  (H : HS) (hQ : Qq14 n s3 s4 ltm .ready [] H) :
  FT Try.prog w0 N0 117 [.yield 4 s4, .vptr [.vs (cSs C)]] H fun _ H' => Qq14 n s3 s4 ltm .ready (zm2 C 0) H' := by
 have hvl : (cSs C).length = C.length := zc3 C
 have w1 : IntKind.wrap .i64 (((C.length : Nat) : Int) - 1) = ((C.length : Nat) : Int) - 1 := zjn _ (by omega) (by omega)
 refine zep env0_ok fn117 [(0, .yield 4 s4), (1, .vptr [.vs (cSs C)])] (by show 2 ≤ 19; decide) rfl ?_
 unfold ic117
 refine zsr rfl (za7 rfl rfl (zbd rfl rfl (zb6 (op := .sub) rfl rfl rfl (za1 rfl (onu (zac ?_))))))
 rw [hvl, w1]
 refine zbu (fun mm S => ∃ k H', mm = k ∧ k ≤ C.length ∧ Qq14 n s3 s4 ltm .ready (zm2 C k) H' ∧ S = st 19 [(0, .yield 4 s4), (1, .vptr [.vs (cSs C)]), (3, .int .i64 (((k : Nat) : Int) - 1))] H'.heap H'.next H'.clk) C.length
  (zan (.cons rfl (.cons rfl (.cons rfl .nil)))) ⟨C.length, H, rfl, y0c _, by rw [revL_all]; exact hQ, rfl⟩ ?_
 rintro k S ⟨_, H', rfl, hk, hQ, rfl⟩
 unfold b117_0
 refine za8 (zsr rfl (za1 rfl ?_))
 refine zaq rfl rfl rfl (fun h4 => ?_) fun h4 => ?_
 ·obtain ⟨k, rfl⟩ : ∃ v, k = v + 1 := by
   have h5 : ((k : Nat) : Int) - 1 ≥ 0 := of_decide_eq_true h4
   exact ⟨k - 1, by omega⟩
  have e1 : (((k + 1 : Nat) : Int) - 1) = (k : Nat) := by omega
  have w2 : IntKind.wrap .i64 (((k : Nat) : Int) - 1) = ((k : Nat) : Int) - 1 := zjn _ (by omega) (by omega)
  have hgk := zdo (l := C) (i := k) (by omega)
  have hyk := hy k (by omega) H' hQ
  generalize C[k] = s at hgk hyk
  rw [e1]
  refine onu (zb4 rfl (zab (zaa (za8 (zac (zsr rfl (za1 rfl (za1 rfl (za7 rfl rfl (za1 rfl (zbh rfl rfl (by omega) (by assumption) rfl ?_)))))))))))
  refine zam rfl rfl rfl rfl ?_
  refine zsb _ rfl rfl hyk (fun _ _ _ _ hm => absurd hm y0d) fun v H2 hF => ?_
  obtain ⟨rfl, hQ'⟩ := hF
  refine zfr rfl rfl (onu (zb8 rfl (zab (zb7 (zaa (za5 rfl (za1 rfl (zb6 (op := .sub) rfl rfl rfl (za1 rfl (zai ?_))))))))))
  rw [w2]
  exact zav (y0k k) (zan (.cons rfl (.cons rfl (.cons rfl .nil)))) ⟨k, H2, rfl, by omega, hQ', rfl⟩
 ·obtain rfl : k = 0 := by
   have h5 : ¬ ((k : Nat) : Int) - 1 ≥ 0 := of_decide_eq_false h4
   omega
  refine onu (zb8 rfl (zbm (zao ?_)))
  refine zcn ?_
  refine zbl ?_
  exact zaf ⟨.inl rfl, _, rfl, hQ⟩
def l14 (f : List Ex) (E : List Bool) (C : List Sk) : List (Nat × AV) := [(69, .fn 117 [] [.vptr [.vs (cSs C)]]), (1, vsB E), (2, .vptr [.vs (cXs f)]), (4, .mptr 0 0 0), (5, .int .i64 (E.length : Nat)), (6, .vs (cSs C)), (8, .mptr 1 0 0)]
set_option maxHeartbeats 4000000 in
theorem yield14 {w0 : World} {N0 n s3 s4 : Nat} {f : List Ex} {E : List Bool} {C : List Sk} (hC : C.length ≤ 100) (hs : ∀ s ∈ C, 0 ≤ s.a ∧ s.a < 4) (ha : Com Try.prog zgh zr8) (hb : Com Try.prog zgi zzr)
  (k : Nat) (hk : k < C.length) (H : HS) (hQ : Qq14 n s3 s4 (l14 f E C) .ready (zm2 C (k + 1)) H) :
  CT Try.prog w0 N0 (.yield 4 s4) [.int .i64 (k : Nat), .agg (cS C[k])] H fun v H' => v = .bool true ∧ Qq14 n s3 s4 (l14 f E C) .ready (zm2 C k) H' := by
 rw [zzy hk]
 have hll := zuf C (k + 1)
 generalize zm2 C (k + 1) = L at *
 obtain ⟨s0, s1⟩ := hs _ (y0y hk)
 have p69 := opp69 s0 s1
 generalize C[k] = s at p69
 obtain ⟨hp, nx, ck⟩ := H
 obtain ⟨sq, h3, h4, hnx⟩ := hQ
 have sq : Sq14 n L hp nx := sq
 have h3 : Am.look 3 hp = _ := h3
 have h4 : Am.look 4 hp = _ := h4
 have hnx : 4 < nx := hnx
 refine zkx (l0 := (71, .agg (cS s)) :: (70, .int .i64 (k : Nat)) :: l14 f E C) h4 ha hb rfl (by decide) rfl ?_
 show Zm _ _ _ _ _ (st 158 _ hp nx ck) _ _
 have hset : ∀ s : Sk, setAt 0 [AV.int .i64 0, AV.bool false] (cS s) = cS s := fun _ => rfl
 unfold zr8
 refine za5 rfl (zau ?_)
 refine zad (vs := cS s) rfl rfl rfl rfl zar rfl rfl ?_
 rw [zbr, hset s]
 refine zai ?_
 refine zaf ⟨rfl, _, _, _, _, rfl, ?_, ?_⟩
 ·rw [za2, if_neg (by omega)]; exact h4
 have sq1 := (sq.fresh (ck, .cells (cS s))).put (j := 4) (by decide) (s4, .loop .busy none 158 (zcz (l14 f E C)) [70, 71] zgh zgi (3, s3))
 have k10 : Am.look nx (zax 4 (s4, AObj.loop .busy none 158 (zcz (l14 f E C)) [70, 71] zgh zgi (3, s3)) ((nx, ck, .cells (cS s)) :: hp)) = some (ck, .cells (cS s)) := by
  rw [za0, if_neg (by omega)]
  exact zar
 have h31 : Am.look 3 (zax 4 (s4, AObj.loop .busy none 158 (zcz (l14 f E C)) [70, 71] zgh zgi (3, s3)) ((nx, ck, .cells (cS s)) :: hp)) = some (s3, .deferred) := by
  rw [za0, if_neg (by decide), za2, if_neg (by omega)]
  exact h3
 have h41 : Am.look 4 (zax 4 (s4, AObj.loop .busy none 158 (zcz (l14 f E C)) [70, 71] zgh zgi (3, s3)) ((nx, ck, .cells (cS s)) :: hp)) = some (s4, .loop .busy none 158 (zcz (l14 f E C)) [70, 71] zgh zgi (3, s3)) := by
  rw [za0, if_pos rfl]
 generalize zax 4 (s4, AObj.loop .busy none 158 (zcz (l14 f E C)) [70, 71] zgh zgi (3, s3)) ((nx, ck, .cells (cS s)) :: hp) = hp1 at *
 unfold zzr
 refine zac (zsr rfl ?_)
 refine zcu (sp := ck) (cs := cS s) rfl k10 (y0k _) rfl rfl ?_
 refine zap rfl rfl p69 noC ?_
 refine za1 rfl (zbj rfl rfl (zbj rfl rfl (zau ?_)))
 refine zad (vs := cS (zjd s)) rfl rfl rfl rfl zar rfl rfl ?_
 rw [zbr, hset (zjd s)]
 have sq2 := sq1.fresh (ck + 1, .cells (cS (zjd s)))
 have k11 : Am.look (nx + 1) ((nx + 1, ck + 1, AObj.cells (cS (zjd s))) :: hp1) = some (ck + 1, .cells (cS (zjd s))) := zar
 have h32 : Am.look 3 ((nx + 1, ck + 1, AObj.cells (cS (zjd s))) :: hp1) = some (s3, .deferred) := by
  rw [za2, if_neg (by omega)]
  exact h31
 have h42 : Am.look 4 ((nx + 1, ck + 1, AObj.cells (cS (zjd s))) :: hp1) = some (s4, .loop .busy none 158 (zcz (l14 f E C)) [70, 71] zgh zgi (3, s3)) := by
  rw [za2, if_neg (by omega)]
  exact h41
 generalize ((nx + 1, ck + 1, AObj.cells (cS (zjd s))) :: hp1 : List (Nat × Nat × AObj)) = hp2 at *
 obtain ⟨q, a1, a2⟩ := sq2.lst
 have nx2 := sq2.nx2
 refine za1 rfl (onu (za8 (zsr rfl (za1 rfl (zci rfl rfl rfl (onu (zb8 rfl (zab (zaa (za5 rfl ?_))))))))))
 refine za9 rfl ?_
 refine zbk (sp := 0) (cs := [.int .i64 (n : Nat), .ms 2 q 2 0 L.length none]) rfl a1 (by omega) rfl ?_
 refine zcu (sp := ck + 1) (cs := cS (zjd s)) rfl k11 (by omega) rfl rfl ?_
 refine zm1 [cS (zjd s)] rfl rfl rfl rfl ?_
 refine zfd rfl rfl ?_
 refine zm1 [cP (zhq (zjd s))] rfl rfl rfl rfl ?_
 refine zbf [cP (zhq (zjd s))] rfl rfl rfl (fun h => Nat.noConfusion h) rfl (by decide) a2 (zjr L).symm (by show L.length + 1 ≤ _; omega) ?_
 rw [zt8]
 refine za9 rfl ?_
 refine ze0 (id := 1) (sp := 0) (off := 0 + 1) (cs := [.int .i64 (n : Nat), .ms 2 q 2 0 L.length none]) rfl rfl rfl (by rw [za0, if_neg (by decide)]; exact a1) (y0k 1) rfl ?_
 refine zai (zb7 ?_)
 refine zaf ⟨158, zcz (l14 f E C), [70, 71], zgh, zgi, (3, s3), ?_, none, rfl, rfl, ?_⟩
 ·show Am.look 4 (zax 1 _ (zax 2 _ hp2)) = _
  rw [za0, if_neg (by decide), za0, if_neg (by decide)]
  exact h42
 have sqa := sq2.app (ck + 1 + 1) (zhq (zjd s))
 refine ⟨sqa.put (by decide) _, ?_, ?_, by show 4 < nx + 1 + 1; omega⟩
 ·show Am.look 3 (zax 4 _ (zax 1 _ (zax 2 _ hp2))) = _
  rw [za0, if_neg (by decide), za0, if_neg (by decide), za0, if_neg (by decide)]
  exact h32
 ·show Am.look 4 (zax 4 _ _) = _
  rw [za0, if_pos rfl]
  rfl
end Go.Proofs.Ytoiblgbaeglgoaa
