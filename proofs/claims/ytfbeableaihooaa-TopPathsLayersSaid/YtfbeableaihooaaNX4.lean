/-
  TIMES ALONG EDGES, in plain Lean: without a cycle the least sums are the layers; a cycle contradicts.; BOUNDS WITHOUT A NEGATIVE ONE HAVE NO NEGATIVE CYCLE; Free.; A SQUARE OF BOUNDS: its cells; each.; THE SQUARE OF BOUNDS: of.; THE SQUARE IS CLOSED: lower, close.; A LIST IS REVERSED IN PLACE.; WALKING BOUNDS AGAIN AND AGAIN: one round walked.; WALKING BOUNDS AGAIN AND AGAIN: without a negative cy
-/
import Derived.Test.YtfbeableaihooaaNX3
namespace Go.Proofs.Ytfbeableaihooaa
open Go Go.Am
structure FwN (q : Nat → Int) (D0 : Nat → Nat → Int) (K k : Nat) (D : Nat → Nat → Int) : Prop where
 lo : ∀ i j, i < K → j < K → D i j ≠ nnB → q j - q i ≤ D i j
 hi : ∀ i j, i < K → j < K → D i j ≠ nnB → D i j ≤ 0
 dia : ∀ i, i < K → D i i = 0
 low : ∀ i j, i < K → j < K → D0 i j ≠ nnB → D i j ≠ nnB ∧ D i j ≤ D0 i j
 tri : ∀ m i j, m < k → m < K → i < K → j < K → D i m ≠ nnB → D m j ≠ nnB → D i j ≠ nnB ∧ D i j ≤ D i m + D m j
section
variable {q : Nat → Int} {D0 D : Nat → Nat → Int} {K k : Nat} (hq : ∀ i, i < K → 0 ≤ q i ∧ q i ≤ 100)
theorem FwN.row (h : FwN q D0 K k D) (hk : k < K) (j : Nat) : fwP k D k j = D k j := by
 unfold fwP
 rw [if_neg]
 rintro ⟨_, a, b | b⟩
 ·exact a b
 ·rw [h.dia k hk] at b
  omega
theorem FwN.col (h : FwN q D0 K k D) (hk : k < K) (i : Nat) : fwP k D i k = D i k := by
 unfold fwP
 rw [if_neg]
 rintro ⟨a, _, b | b⟩
 ·exact a b
 ·rw [h.dia k hk] at b
  omega
include hq
theorem FwN.sum (h : FwN q D0 K k D) {i m j : Nat} (hi : i < K) (hm : m < K) (hj : j < K) (a : D i m ≠ nnB) (b : D m j ≠ nnB) : D i m + D m j ≠ nnB ∧ q j - q i ≤ D i m + D m j ∧ D i m + D m j ≤ 0 := by
 have h1 := h.lo i m hi hm a
 have h2 := h.lo m j hm hj b
 have h3 := h.hi i m hi hm a
 have h4 := h.hi m j hm hj b
 have h5 := hq i hi
 have h6 := hq j hj
 unfold nnB
 omega
theorem FwN.min (h : FwN q D0 K k D) (hk : k < K) {i j : Nat} (hi : i < K) (hj : j < K) (a : D i k ≠ nnB) (b : D k j ≠ nnB) : fwP k D i j ≠ nnB ∧ fwP k D i j ≤ D i k + D k j := by
 have s := h.sum hq hi hk hj a b
 unfold fwP
 split
 ·exact ⟨s.1, y1e _⟩
 ·rename_i c
  have c1 : ¬ (D i j = nnB ∨ D i k + D k j < D i j) := fun x => c ⟨a, b, x⟩
  exact ⟨fun e => c1 (.inl e), by omega⟩
theorem FwN.keep (h : FwN q D0 K k D) (hk : k < K) {i j : Nat} (hi : i < K) (hj : j < K) (a : D i j ≠ nnB) : fwP k D i j ≠ nnB ∧ fwP k D i j ≤ D i j := by
 obtain ⟨h1, h2 | ⟨c, d, e⟩⟩ := fw_le (k := k) a
 ·rw [h2]
  exact ⟨a, y1e _⟩
 ·refine ⟨?_, h1⟩
  rw [e]
  exact (h.sum hq hi hk hj c d).1
theorem FwN.step (h : FwN q D0 K k D) (hk : k < K) : FwN q D0 K (k + 1) (fwP k D) := by
 refine ⟨fun i j hi hj hn => ?_, fun i j hi hj hn => ?_, fun i hi => ?_, fun i j hi hj he => ?_, fun m i j hm hmK hi hj a b => ?_⟩
 ·rcases zcn k D i j with e | ⟨a, b, e⟩
  ·rw [e] at hn ⊢
   exact h.lo i j hi hj hn
  ·rw [e]
   exact (h.sum hq hi hk hj a b).2.1
 ·rcases zcn k D i j with e | ⟨a, b, e⟩
  ·rw [e] at hn ⊢
   exact h.hi i j hi hj hn
  ·rw [e]
   exact (h.sum hq hi hk hj a b).2.2
 ·rcases zcn k D i i with e | ⟨a, b, e⟩
  ·rw [e]
   exact h.dia i hi
  ·have s := (h.sum hq hi hk hi a b).2
   rw [e]
   omega
 ·obtain ⟨a, b⟩ := h.low i j hi hj he
  obtain ⟨c, d⟩ := h.keep hq hk hi hj a
  exact ⟨c, by omega⟩
 ·by_cases e : m = k
  ·subst e
   rw [h.col hk i] at a ⊢
   rw [h.row hk j] at b ⊢
   exact h.min hq hk hi hj a b
  have hmk : m < k := by omega
  rcases zcn k D i m with e1 | ⟨a1, a2, e1⟩
  ·rw [e1] at a ⊢
   rcases zcn k D m j with e2 | ⟨b1, b2, e2⟩
   ·rw [e2] at b ⊢
    obtain ⟨c, d⟩ := h.tri m i j hmk hmK hi hj a b
    obtain ⟨f, g⟩ := h.keep hq hk hi hj c
    exact ⟨f, by omega⟩
   ·rw [e2]
    obtain ⟨c, d⟩ := h.tri m i k hmk hmK hi hk a b1
    obtain ⟨f, g⟩ := h.min hq hk hi hj c b2
    exact ⟨f, by omega⟩
  ·rw [e1]
   rcases zcn k D m j with e2 | ⟨b1, b2, e2⟩
   ·rw [e2] at b ⊢
    obtain ⟨c, d⟩ := h.tri m k j hmk hmK hk hj a2 b
    obtain ⟨f, g⟩ := h.min hq hk hi hj a1 c
    exact ⟨f, by omega⟩
   ·rw [e2]
    obtain ⟨f, g⟩ := h.min hq hk hi hj a1 b2
    have x := h.sum hq hk hmK hk a2 b1
    exact ⟨f, by omega⟩
theorem FwN.all (h : FwN q D K 0 D) : ∀ k, k ≤ K → FwN q D K k (fwK D k)
 | 0, _ => h
 | k + 1, hk => (FwN.all h k (by omega)).step hq (by omega)
end
structure BndL (E : List (Nat × Nat)) (m : Nat) (D : Nat → Nat → Int) : Prop where
 dia : ∀ i, i < m + 1 → D i i = 0
 zer : ∀ v, v < m → D (v + 1) 0 = 0
 neg : ∀ u v, (u, v) ∈ E → D (v + 1) (u + 1) = -1
 non : ∀ i j, i < m + 1 → j < m + 1 → i ≠ j → j ≠ 0 → (∀ u v, (u, v) ∈ E → ¬ (i = v + 1 ∧ j = u + 1)) → D i j = nnB
section
variable {E : List (Nat × Nat)} {m : Nat} {D : Nat → Nat → Int} (h : BndL E m D)
include h
theorem BndL.val {i j : Nat} (hi : i < m + 1) (hj : j < m + 1) (hn : D i j ≠ nnB) : (i = j ∧ D i j = 0) ∨ (∃ v, v < m ∧ i = v + 1 ∧ j = 0 ∧ D i j = 0) ∨ (∃ u v, (u, v) ∈ E ∧ i = v + 1 ∧ j = u + 1 ∧ D i j = -1) := by
 by_cases e : i = j
 ·subst e
  exact .inl ⟨rfl, h.dia i hi⟩
 by_cases z : j = 0
 ·subst z
  obtain ⟨v, rfl⟩ : ∃ v, i = v + 1 := ⟨i - 1, by omega⟩
  exact .inr (.inl ⟨v, by omega, rfl, rfl, h.zer v (by omega)⟩)
 by_cases c : ∃ u v, (u, v) ∈ E ∧ i = v + 1 ∧ j = u + 1
 ·obtain ⟨u, v, hm, rfl, rfl⟩ := c
  exact .inr (.inr ⟨u, v, hm, rfl, rfl, h.neg u v hm⟩)
 ·exact absurd (h.non i j hi hj e z fun u v hm x => c ⟨u, v, hm, x.1, x.2⟩) hn
theorem BndL.okL : OkL D (m + 1) := fun i j hi hj => by
 by_cases hn : D i j = nnB
 ·exact .inl hn
 ·rcases h.val hi hj hn with ⟨_, e⟩ | ⟨_, _, _, _, e⟩ | ⟨_, _, _, _, _, e⟩ <;> exact .inr (by omega)
theorem BndL.okN : OkN D (m + 1) := ⟨fun i j hi hj hn => by
 have := (h.okL i j hi hj).resolve_left hn
 unfold insB
 rw [decide_eq_true (by omega), decide_eq_true (by omega)]
 rfl, h.dia⟩
def qL (o : List Int) : Nat → Int
 | 0 => 0
 | v + 1 => gZ o v
omit h in
theorem qL_le {o : List Int} (ho : Lay E m o) (hm : m ≤ 12) (i : Nat) : 0 ≤ qL o i ∧ qL o i ≤ 100 := by
 cases i with
 | zero => exact ⟨y1e 0, by show (0 : Int) ≤ 100; decide⟩
 | succ v =>
  have a := ho.low v
  have b := lay_le ho v
  show 0 ≤ gZ o v ∧ gZ o v ≤ 100
  omega
theorem BndL.start {o : List Int} (ho : Lay E m o) : FwN (qL o) D (m + 1) 0 D := by
 refine ⟨fun i j hi hj hn => ?_, fun i j hi hj hn => ?_, h.dia, fun i j hi hj hn => ⟨hn, y1e _⟩, fun _ _ _ hm => absurd hm (y28 _)⟩
 ·rcases h.val hi hj hn with ⟨rfl, e⟩ | ⟨v, _, rfl, rfl, e⟩ | ⟨u, v, hm, rfl, rfl, e⟩
  ·omega
  ·rw [e]
   have := ho.low v
   show (0 : Int) - gZ o v ≤ 0
   omega
  ·rw [e]
   have := ho.up u v hm
   show gZ o u - gZ o v ≤ -1
   omega
 ·rcases h.val hi hj hn with ⟨_, e⟩ | ⟨_, _, _, _, e⟩ | ⟨_, _, _, _, _, e⟩ <;> omega
theorem BndL.lay {o : List Int} (hb : ∀ u v, (u, v) ∈ E → u < m ∧ v < m) (ho : Lay E m o) (hm : m ≤ 12) {w : Nat} (hw : w < m) : fwK D (m + 1) (w + 1) 0 ≠ nnB ∧ fwK D (m + 1) (w + 1) 0 = -(gZ o w) := by
 have hN := (h.start ho).all (fun i _ => qL_le ho hm i) (m + 1) (y0c _)
 have key : ∀ (k w : Nat), w < m → gZ o w = (k : Int) → fwK D (m + 1) (w + 1) 0 ≠ nnB ∧ fwK D (m + 1) (w + 1) 0 ≤ -(k : Int) := by
  intro k
  induction k with
  | zero =>
   intro w hw _
   obtain ⟨a, b⟩ := hN.low (w + 1) 0 (by omega) (by omega) (by rw [h.zer w hw]; decide)
   rw [h.zer w hw] at b
   exact ⟨a, by omega⟩
  | succ k ih =>
   intro w hw e
   obtain ⟨u, hu, e2⟩ := ho.down w (by omega)
   have hum := (hb u w hu).1
   obtain ⟨a, b⟩ := ih u hum (by omega)
   obtain ⟨c, d⟩ := hN.low (w + 1) (u + 1) (by omega) (by omega) (by rw [h.neg u w hu]; decide)
   rw [h.neg u w hu] at d
   obtain ⟨f, g⟩ := hN.tri (u + 1) (w + 1) 0 (by omega) (by omega) (by omega) (by omega) c a
   exact ⟨f, by omega⟩
 have hl := ho.low w
 obtain ⟨a, b⟩ := key (gZ o w).toNat w hw (by omega)
 have c := hN.lo (w + 1) 0 (by omega) (by omega) a
 have c : (0 : Int) - gZ o w ≤ fwK D (m + 1) (w + 1) 0 := c
 exact ⟨a, by omega⟩
omit h in
theorem lay_lt {o : List Int} (hb : ∀ u v, (u, v) ∈ E → u < m ∧ v < m) (ho : Lay E m o) {v : Nat} (hv : v < m) : gZ o v < (m : Nat) := by
 have chain : ∀ (k : Nat) (v : Nat), v < m → gZ o v = (k : Int) → ∀ j : Nat, j ≤ k → ∃ u, u < m ∧ gZ o u = (j : Int) := by
  intro k
  induction k with
  | zero => exact fun v hv e j hj => ⟨v, hv, by rw [e]; omega⟩
  | succ k ih =>
   intro v hv e j hj
   by_cases hjk : j = k + 1
   ·exact ⟨v, hv, by rw [e, hjk]⟩
   ·obtain ⟨u, hu, e2⟩ := ho.down v (by omega)
    exact ih u (hb u v hu).1 (by omega) j (by omega)
 have h0 := ho.low v
 have hc := chain (gZ o v).toNat v hv (by omega)
 have := zc9 (a := (List.range ((gZ o v).toNat + 1)).map fun j => ((j : Nat) : Int)) (b := o) ?_ ?_
 ·rw [y04, y0m, ho.len] at this
  omega
 ·exact List.pairwise_map.2 (List.nodup_range.imp fun {a b} h e => h (by omega))
 ·intro x hx
  obtain ⟨j, hj, rfl⟩ := y0i.1 hx
  rw [y0j] at hj
  obtain ⟨u, hu, e⟩ := hc j (by omega)
  have hlt : u < o.length := by rw [ho.len]; exact hu
  unfold gZ at e
  rw [y0b, y07 hlt] at e
  rw [← e]
  exact y0z hlt
omit h in
theorem max_at (f : Nat → Int) : ∀ m, 0 < m → ∃ v, v < m ∧ ∀ w, w < m → f w ≤ f v
 | 0, h => absurd h (Nat.lt_irrefl 0)
 | 1, _ => ⟨0, by omega, fun w hw => by rw [show w = 0 by omega]; exact y1e _⟩
 | m + 2, _ => by
  obtain ⟨v, hv, a⟩ := max_at f (m + 1) (by omega)
  by_cases c : f v ≤ f (m + 1)
  ·exact ⟨m + 1, by omega, fun w hw => by
    by_cases e : w = m + 1
    ·rw [e]; exact y1e _
    ·exact Int.le_trans (a w (by omega)) c⟩
  ·exact ⟨v, by omega, fun w hw => by
    by_cases e : w = m + 1
    ·rw [e]; omega
    ·exact a w (by omega)⟩
def pL (o : List Int) (x : Int) : Nat → Int
 | 0 => -x
 | v + 1 => -(gZ o v)
def dL (o : List Int) (x : Int) : Nat → Nat
 | 0 => x.toNat + 1
 | v + 1 => (gZ o v).toNat
theorem BndL.pot {o : List Int} (hb : ∀ u v, (u, v) ∈ E → u < m ∧ v < m) (ho : Lay (rvE E) m o) (h0 : 0 < m) : ∃ p d, Pot D (m + 1) p d := by
 obtain ⟨v0, hv0, hmx⟩ := max_at (gZ o) m h0
 have hbr := zf5 hb
 have hl0 := ho.low v0
 refine ⟨pL o (gZ o v0), dL o (gZ o v0), fun j hj => ?_, fun i j hi hj hn => ?_, fun j hj => ?_, fun j hj hd => ?_, fun j hj hd => ?_⟩
 ·cases j with
  | zero => show -(gZ o v0) ≤ 0; omega
  | succ v =>
   have := ho.low v
   show -(gZ o v) ≤ 0
   omega
 ·rcases h.val hi hj hn with ⟨rfl, e⟩ | ⟨v, hv, rfl, rfl, e⟩ | ⟨u, v, hm, rfl, rfl, e⟩
  ·omega
  ·rw [e]
   have := hmx v hv
   show -(gZ o v0) ≤ -(gZ o v) + 0
   omega
  ·rw [e]
   have := ho.up v u (zem.2 hm)
   show -(gZ o u) ≤ -(gZ o v) + -1
   omega
 ·cases j with
  | zero =>
   have := lay_lt hbr ho hv0
   show (gZ o v0).toNat + 1 < m + 1
   omega
  | succ v =>
   have := lay_lt hbr ho (v := v) (by omega)
   show (gZ o v).toNat < m + 1
   omega
 ·cases j with
  | zero => exact absurd hd (y24 _)
  | succ v =>
   have hd : (gZ o v).toNat = 0 := hd
   have := ho.low v
   show -(gZ o v) = 0
   omega
 ·cases j with
  | zero => exact ⟨v0 + 1, by omega, y0q _, by rw [h.zer v0 hv0]; decide, by rw [h.zer v0 hv0]; show -(gZ o v0) = -(gZ o v0) + 0; omega⟩
  | succ v =>
   have hd : (gZ o v).toNat ≠ 0 := hd
   obtain ⟨u, hu, e⟩ := ho.down v (by omega)
   have hu := zem.1 hu
   have hum := (hb v u hu).2
   exact ⟨u + 1, by omega, by show (gZ o u).toNat < (gZ o v).toNat; omega, by rw [h.neg v u hu]; decide, by rw [h.neg v u hu]; show -(gZ o v) = -(gZ o u) + -1; omega⟩
theorem BndL.neg_cyc {c : List Nat} (hc : CycP E m c) : NegC D (m + 1) c.length fun t => gN c (t % c.length) + 1 := by
 have hp := hc.pos
 refine ⟨hp, ?_, fun t => ?_, fun t ht => ?_⟩
 ·show gN c (c.length % c.length) + 1 = gN c (0 % c.length) + 1
  rw [Nat.mod_self, Nat.zero_mod]
 ·have := hc.lt (t % c.length) (Nat.mod_lt _ hp)
  show gN c (t % c.length) + 1 < m + 1
  omega
 ·have := hc.edge t ht
  show D (gN c ((t + 1) % c.length) + 1) (gN c (t % c.length) + 1) = -1
  rw [y2r ht]
  exact h.neg _ _ this
end
theorem noEsc : ∀ g, zcg Try.prog g = false := fun (g : Nat) => by
 by_cases h : g < 116
 ·have k : ((List.range 116).all fun g => !(zcg Try.prog g)) = true := by kernel_rfl
  have := y0e.1 k g (y0j.2 h)
  simpa using this
 ·have hs : Try.prog.funcs.size = 116 := by kernel_rfl
  unfold zcg
  rw [y2p (by rw [hs]; omega)]
theorem z_any2 {P : Program} {w0 : World} {N0 : Nat} {k : List Fr} {Q : Exit → AS → Prop} {ios : List Opr} {pres : List (List Nat)} (hm : P.follows .mixedOrders = true) {y : IC} {S S1 : AS}
  (h : ∀ rd (K : AS → Prop), (∀ S', Sub0 w0 N0 S' S1 → K S') → AnyF P w0 N0 rd ios pres ios.length [] S K) (go : Zm P w0 N0 none y S1 k Q) : Zm P w0 N0 none (.region ios (some pres)) S (.seq y :: k) Q :=
 z_any hm fun rd => h rd _ fun _ hs => (za5 (z_sub (md := none) hs go)).ok
section
variable {n nx ck : Nat} {mk : List (Nat × Nat)} {l : List (Nat × AV)} {hp : List (Nat × Nat × AObj)}
theorem g_mks {sz bytes : Nat} {z : List AV} {a c : Arg} {lv cv : Int} {kd kc : IntKind} (ha : zb6 a l = some (.int kd lv)) (hc : zb6 c l = some (.int kc cv)) (hb : 0 ≤ lv ∧ lv ≤ cv ∧ cv ≤ 1048576 ∧ bytes ≤ 16777216) :
  iop (st n l hp nx ck mk) (.mkslice sz bytes z a c) = some (.ms nx ck sz 0 lv.toNat (some cv.toNat), st n l ((nx, ck, .cells (zed cv.toNat z)) :: hp) (nx + 1) (ck + 1) mk) := by
 simp only [iop, zaq, ha, hc, if_pos hb]
 rfl
end
def zerL (K : Nat) : List Int := List.replicate K 0
theorem zer_repl (K : Nat) : zed K [AV.int .i64 0] = (zerL K).map (AV.int .i64) := by
 unfold zerL
 induction K with
 | zero => rfl
 | succ m ih =>
  show [AV.int .i64 0] ++ zed m [AV.int .i64 0] = _
  rw [ih]
  rfl
def b51_4 : IC := .seq (.region [oM 34 (.bin .lss (.t 33) (.t 32))] none)
 (.seq (.cond (.t 34) (.skip)
 (.exit 4))
 (.seq (.block 5 (.seq (.region [oT 35 33,
  oM 36 (.idxs 1 (.t 31) (.t 33)),
  oN 37 36,
  oT 9 35,
  oT 10 37] none)
 (.seq (.region [oT 38 10,
  oM 39 (.bin .neq (.t 38) (.c (.int .i64 (-1099511627776)))),
  oT 40 39,
  ⟨(some 41), .mov (.t 4), some (40, true)⟩,
  ⟨(some 42), .mov (.t 7), some (40, true)⟩,
  ⟨(some 43), .idxs 1 (.t 41) (.t 42), some (40, true)⟩,
  ⟨(some 44), .load none (.t 43), some (40, true)⟩,
  ⟨(some 45), .mov (.t 10), some (40, true)⟩,
  ⟨(some 46), .bin .add (.t 44) (.t 45), some (40, true)⟩,
  ⟨(some 47), .mov (.t 4), some (40, true)⟩,
  ⟨(some 48), .mov (.t 9), some (40, true)⟩,
  ⟨(some 49), .idxs 1 (.t 47) (.t 48), some (40, true)⟩,
  ⟨(some 50), .load none (.t 49), some (40, true)⟩,
  ⟨(some 51), .bin .lss (.t 46) (.t 50), some (40, true)⟩,
  oM 52 (.pick (.t 40) (.t 51) (.c (.bool false)))] (some [[], [0], [1], [2], [2], [3, 4, 2], [5, 2], [2], [6, 7, 2], [2], [2], [9, 10, 2], [11, 2], [8, 12, 2], [2, 13]]))
 (.cond (.t 52) (.region [oT 53 4,
  oT 54 9,
  oT 55 5,
  oT 56 9,
  oT 57 4,
  oT 58 7,
  oM 59 (.idxs 1 (.t 57) (.t 58)),
  oN 60 59,
  oT 61 10,
  oM 62 (.bin .add (.t 60) (.t 61)),
  oT 63 7,
  oT 64 9,
  oM 65 (.idxs 1 (.t 53) (.t 54)),
  ⟨none, .store 1 (.t 65) (.t 62), none⟩,
  oM 66 (.idxs 1 (.t 55) (.t 56)),
  ⟨none, .store 1 (.t 66) (.t 63), none⟩,
  oT 6 64] none)
 (.skip)))))
 (.region [oM 67 (.bin .add (.t 33) (.c (.int .i64 1))),
  oT 33 67] none)))
def b51_2 : IC := .seq (.region [oM 27 (.bin .lss (.t 26) (.t 25))] none)
 (.seq (.cond (.t 27) (.skip)
 (.exit 2))
 (.seq (.block 3 (.seq (.region [oT 28 26,
  oM 29 (.idxs 1 (.t 24) (.t 26)),
  oN 30 29,
  oT 7 28,
  oT 8 30] none)
 (.seq (.region [oT 31 8,
  oM 32 (.len false (.t 31)),
  oM 33 (.mov (.c (.int .i64 0)))] none)
 (.block 4 (.loop b51_4)))))
 (.region [oM 68 (.bin .add (.t 26) (.c (.int .i64 1))),
  oT 26 68] none)))
def b51_0 : IC := .seq (.region [oM 22 (.bin .lss (.t 21) (.t 20))] none)
 (.seq (.cond (.t 22) (.skip)
 (.exit 0))
 (.seq (.block 1 (.seq (.region [oM 6 (.mov (.c (.int .i64 (-1))))] none)
 (.seq (.seq (.region [oF 23 1 1,
  oN 24 23,
  oM 25 (.len false (.t 24)),
  oM 26 (.mov (.c (.int .i64 0)))] none)
 (.block 2 (.loop b51_2)))
 (.seq (.region [oT 69 6,
  oM 70 (.bin .lss (.t 69) (.c (.int .i64 0)))] none)
 (.cond (.t 70) (.seq (.region [oM 2 (.mov (.c (.nils)))] none)
 (.ret))
 (.skip))))))
 (.region [oM 71 (.bin .add (.t 21) (.c (.int .i64 1))),
  oT 21 71] none)))
def b51_6 : IC := .seq (.region [oM 74 (.bin .lss (.t 73) (.t 72))] none)
 (.seq (.cond (.t 74) (.skip)
 (.exit 6))
 (.seq (.block 7 (.region [oT 75 5,
  oT 76 6,
  oM 77 (.idxs 1 (.t 75) (.t 76)),
  oN 78 77,
  oT 6 78] none))
 (.region [oM 79 (.bin .add (.t 73) (.c (.int .i64 1))),
  oT 73 79] none)))
def b51_8 : IC := .seq (.seq (.region [oT 86 12,
  oT 87 6,
  oM 88 (.bin .neq (.t 86) (.t 87))] none)
 (.cond (.t 88) (.skip)
 (.exit 8)))
 (.seq (.block 9 (.region [oT 93 11,
  oT 94 12,
  oM 95 (.bslice 1 1 [.int .i64 0] [(0, 1, (.t 94))]),
  oM 96 (.append 1 8 [.int .i64 0] (.t 93) (.t 95)),
  oT 11 96] none))
 (.region [oT 89 5,
  oT 90 12,
  oM 91 (.idxs 1 (.t 89) (.t 90)),
  oN 92 91,
  oT 12 92] none))
-- pneumatic/bounds.negative
def ic51 : IC := .seq (.region [oM 1 (.box (.t 0)),
  oM 2 (.mov (.c (.nils)))] none)
 (.seq (.region [oF 13 0 1,
  oN 14 13,
  oM 15 (.bin .add (.t 14) (.c (.int .i64 1))),
  oT 3 15] none)
 (.seq (.region [oT 16 3,
  oM 17 (.mkslice 1 8 [.int .i64 0] (.t 16) (.t 16)),
  oT 18 3,
  oM 19 (.mkslice 1 8 [.int .i64 0] (.t 18) (.t 18)),
  oT 4 17,
  oT 5 19] (some [[], [0, 0], [], [2, 2], [1, 0, 1], [3, 4, 0, 1, 2, 3, 4]]))
 (.seq (.region [oM 6 (.mov (.c (.int .i64 (-1))))] none)
 (.seq (.seq (.region [oT 20 3,
  oM 21 (.mov (.c (.int .i64 0)))] none)
 (.block 0 (.loop b51_0)))
 (.seq (.seq (.region [oT 72 3,
  oM 73 (.mov (.c (.int .i64 0)))] none)
 (.block 6 (.loop b51_6)))
 (.seq (.region [oT 80 6,
  oM 81 (.bslice 1 1 [.int .i64 0] [(0, 1, (.t 80))]),
  oT 11 81] none)
 (.seq (.seq (.region [oT 82 5,
  oT 83 6,
  oM 84 (.idxs 1 (.t 82) (.t 83)),
  oN 85 84,
  oT 12 85] none)
 (.block 8 (.loop b51_8)))
 (.seq (.region [oT 97 11,
  oM 98 (.call (.c (.fn 70 [] [])) [(.t 97)])] none)
 (.seq (.region [oT 99 11,
  oT 2 99] none)
 (.ret))))))))))
theorem fn51 : env0.fn 51 = some ⟨100, ic51, [.t 2]⟩ := by kernel_rfl
def freeB (i j : Nat) : Int := if i = j then 0 else nnB
def rows8 : List (List AV × AV) := (List.range 9).map fun n => ([.int .i64 (n : Nat)], cB (n : Nat) (zca freeB (n + 1)))
def tab8 : Tab := [(8, rows8)]
theorem tab8_ok : TabOk Try.prog tab8 := TabOk.of_run (env0_ok.tab TabOk.nil (pure := [])) (n := 60) (by kernel_rfl)
theorem free8 {n : Nat} (h : n ≤ 8) : PF Try.prog 8 [.int .i64 (n : Nat)] (cB (n : Nat) (zca freeB (n + 1))) :=
 tab8_ok _ (y08 ..) ([.int .i64 (n : Nat)], _) (y0i.2 ⟨n, y0j.2 (by omega), rfl⟩)
def KpH (B H : HS) : Prop := B.next ≤ H.next ∧ ∀ j, j < B.next → Am.look j H.heap = Am.look j B.heap
theorem KpH.refl (B : HS) : KpH B B := ⟨y0c _, fun _ _ => rfl⟩
theorem KpH.trans {A B C : HS} (h : KpH A B) (k : KpH B C) : KpH A C := ⟨y0w h.1 k.1, fun j hj => (k.2 j (y1g hj h.1)).trans (h.2 j hj)⟩
def sqC (k : Nat) (G : Nat → Nat → Int) : List AV := .int .i64 (k : Nat) :: (List.range 169).map fun p => .int .i64 (G (p / 13) (p % 13))
def upG (G : Nat → Nat → Int) (i j : Nat) (v : Int) : Nat → Nat → Int := fun a b => if a = i ∧ b = j then v else G a b
theorem zqm (k : Nat) (G : Nat → Nat → Int) : (sqC k G).length = 170 := by
 unfold sqC
 rw [y0r, y04, y0m]
theorem zql (k : Nat) (G : Nat → Nat → Int) {i j : Nat} (hi : i < 13) (hj : j < 13) : (sqC k G)[0 + 1 + ((i : Nat) : Int).toNat * 13 + ((j : Nat) : Int).toNat * 1]? = some (.int .i64 (G i j)) := by
 unfold sqC
 rw [y0t, y0t, show 0 + 1 + i * 13 + j * 1 = (i * 13 + j) + 1 by omega, y2i, y0d, y1c (by omega)]
 show some (AV.int .i64 (G ((i * 13 + j) / 13) ((i * 13 + j) % 13))) = _
 rw [show (i * 13 + j) / 13 = i by omega, show (i * 13 + j) % 13 = j by omega]
theorem zw1 (k : Nat) (G : Nat → Nat → Int) {i j : Nat} (hi : i < 13) (hj : j < 13) (v : Int) : (sqC k G).set (0 + 1 + ((i : Nat) : Int).toNat * 13 + ((j : Nat) : Int).toNat * 1) (.int .i64 v) = sqC k (upG G i j v) := by
 unfold sqC
 rw [y0t, y0t, show 0 + 1 + i * 13 + j * 1 = (i * 13 + j) + 1 by omega, List.set_cons_succ]
 congr 1
 refine y2t (by simp) fun p h1 h2 => ?_
 rw [List.getElem_set, y2f, y2f, List.getElem_range]
 unfold upG
 by_cases e : i * 13 + j = p
 ·subst e
  rw [if_pos rfl, if_pos ⟨by omega, by omega⟩]
 ·rw [if_neg e, if_neg (by omega)]
def b54_2 : IC := .seq (.region [oM 18 (.bin .lss (.t 17) (.t 16))] none)
 (.seq (.cond (.t 18) (.skip)
 (.exit 2))
 (.seq (.block 3 (.seq (.region [oT 19 17,
  oT 5 19] none)
 (.region [oT 20 1,
  oT 21 4,
  oT 22 5,
  oM 23 (.call (.t 20) [(.t 21), (.t 22)])] none)))
 (.region [oM 24 (.bin .add (.t 17) (.c (.int .i64 1))),
  oT 17 24] none)))
def b54_0 : IC := .seq (.region [oM 11 (.bin .lss (.t 10) (.t 9))] none)
 (.seq (.cond (.t 11) (.skip)
 (.exit 0))
 (.seq (.block 1 (.seq (.region [oT 12 10,
  oT 4 12] none)
 (.seq (.region [oT 13 0,
  oM 14 (.nilchk (.t 13)),
  oF 15 0 14,
  oN 16 15,
  oM 17 (.mov (.c (.int .i64 0)))] none)
 (.block 2 (.loop b54_2)))))
 (.region [oM 25 (.bin .add (.t 10) (.c (.int .i64 1))),
  oT 10 25] none)))
-- (*pneumatic/bounds.square).each
def ic54 : IC := .seq (.region [oT 6 0,
  oM 7 (.nilchk (.t 6)),
  oF 8 0 7,
  oN 9 8,
  oM 10 (.mov (.c (.int .i64 0)))] none)
 (.block 0 (.loop b54_0))
theorem fn54 : env0.fn 54 = some ⟨26, ic54, []⟩ := by kernel_rfl
set_option maxHeartbeats 2000000 in
theorem each54 {w0 : World} {N0 : Nat} {fv : AV} {k id sp : Nat} (hk : k ≤ 13) (Iv : Nat → Nat → HS → Prop) (hl : ∀ i j H, Iv i j H → (∃ cs, Am.look id H.heap = some (sp, .cells (.int .i64 (k : Nat) :: cs))) ∧ id < H.next)
  (hy : ∀ i j H, i < k → j < k → Iv i j H → CT Try.prog w0 N0 fv [.int .i64 (i : Nat), .int .i64 (j : Nat)] H fun _ H' => Iv i (j + 1) H') (hr : ∀ i H, i < k → Iv i k H → Iv (i + 1) 0 H) (H : HS) (h0 : Iv 0 0 H) :
  FT Try.prog w0 N0 54 [.mptr id sp 0, fv] H fun _ H' => Iv k 0 H' := by
 obtain ⟨⟨cs, hlk⟩, hid⟩ := hl 0 0 H h0
 refine zeh env0_ok fn54 [(0, .mptr id sp 0), (1, fv)] (by show 2 ≤ 26; decide) rfl ?_
 unfold ic54
 refine zsr rfl (za1 rfl (zfm rfl (zai rfl ?_)))
 refine zc8 rfl hlk hid rfl ?_
 refine za1 rfl (onu (zac ?_))
 refine zb8 (fun mm S => ∃ i H', mm = k - i ∧ i ≤ k ∧ Iv i 0 H' ∧ S = st 26 [(0, .mptr id sp 0), (1, fv), (9, .int .i64 (k : Nat)), (10, .int .i64 (i : Nat))] H'.heap H'.next H'.clk) k
  (za9 (.cons rfl (.cons rfl (.cons rfl (.cons rfl .nil))))) ⟨0, H, rfl, y0s _, h0, rfl⟩ ?_
 clear hlk hid h0
 rintro mm S ⟨i, H', rfl, hi, hI, rfl⟩
 obtain ⟨⟨cs, hlk⟩, hid⟩ := hl i 0 H' hI
 unfold b54_0
 refine zsr rfl ?_
 refine zam rfl rfl rfl (fun h1 => ?_) fun h1 => ?_
 ·have hlt : i < k := y0x.1 (of_decide_eq_true h1)
  refine onu (za7 (zbz rfl (zae (za5 (za7 (zac (zsr rfl (za1 rfl (za1 rfl (onu ?_))))))))))
  refine zsr rfl (za1 rfl (zfm rfl (zai rfl ?_)))
  refine zc8 rfl hlk hid rfl ?_
  refine za1 rfl (onu (zac ?_))
  refine zb8 (fun mm S => ∃ j H', mm = k - j ∧ j ≤ k ∧ Iv i j H' ∧ S = st 26 [(0, .mptr id sp 0), (1, fv), (9, .int .i64 (k : Nat)), (10, .int .i64 (i : Nat)), (4, .int .i64 (i : Nat)), (16, .int .i64 (k : Nat)), (17, .int .i64 (j : Nat))] H'.heap H'.next H'.clk) k
   (za9 (.cons rfl (.cons rfl (.cons rfl (.cons rfl (.cons rfl (.cons rfl (.cons rfl .nil)))))))) ⟨0, H', rfl, y0s _, hI, rfl⟩ ?_
  clear hI hlk hid
  rintro mm S ⟨j, H', rfl, hj, hI, rfl⟩
  unfold b54_2
  refine zsr rfl ?_
  refine zam rfl rfl rfl (fun h2 => ?_) fun h2 => ?_
  ·have hlt2 : j < k := y0x.1 (of_decide_eq_true h2)
   repeat (first | refine za7 ?_ | refine za0 rfl ?_ | refine za8 ?_ | refine za5 ?_ | refine zac ?_ | refine zae ?_ | refine zbz rfl ?_ | refine za1 rfl ?_)
   refine zry _ rfl rfl (hy i j H' hlt hlt2 hI) (fun _ _ _ _ hm => absurd hm y0h) fun v H2 hF => ?_
   refine za8 (zbd (za5 (za0 rfl (zav (op := .add) rfl rfl rfl (za1 rfl (za8 ?_))))))
   rw [zab j (by omega)]
   exact zal (show k - (j + 1) < k - j by omega) (za9 (.cons rfl (.cons rfl (.cons rfl (.cons rfl (.cons rfl (.cons rfl (.cons rfl .nil)))))))) ⟨j + 1, H2, rfl, hlt2, hF, rfl⟩
  ·obtain rfl : j = k := by have := of_decide_eq_false h2; omega
   refine onu (za7 (zbn rfl (zbb (zad ?_))))
   refine zby ?_
   refine zb7 (zbd (za5 (za0 rfl (zav (op := .add) rfl rfl rfl (za1 rfl (za8 ?_))))))
   rw [zab i (by omega)]
   exact zal (show j - (i + 1) < j - i by omega) (za9 (.cons rfl (.cons rfl (.cons rfl (.cons rfl .nil))))) ⟨i + 1, H', rfl, hlt, hr i H' hlt hI, rfl⟩
 ·obtain rfl : i = k := by have := of_decide_eq_false h1; omega
  refine onu (za7 (zbn rfl (zbb (zad ?_))))
  refine zby ?_
  refine zb7 ?_
  exact zao ⟨.inl rfl, _, rfl, hI⟩
-- pneumatic/bounds.of$1
def ic71 : IC := .region [oN 6 3,
  oT 7 0,
  oT 8 1,
  oF 9 1 2,
  oN 10 9,
  oT 11 0,
  oM 12 (.idxs 1 (.t 10) (.t 11)),
  oN 13 12,
  oT 14 1,
  oM 15 (.idxs 1 (.t 13) (.t 14)),
  oN 16 15,
  oM 17 (.nilchk (.t 6)),
  oF 18 1 17,
  oM 19 (.idxarr 13 13 (.t 18) (.t 7)),
  oM 20 (.idxarr 13 1 (.t 19) (.t 8)),
  ⟨none, .store 1 (.t 20) (.t 16), none⟩] (some [[], [], [], [], [3], [], [4, 5], [6], [], [7, 8], [9], [0], [11], [12, 1], [13, 2, 0, 1, 2, 3, 4, 5, 6, 7, 8, 9, 10], [14, 10, 0, 1, 2, 3, 4, 5, 6, 7, 8, 9, 10]])
theorem fn71 : env0.fn 71 = some ⟨21, ic71, []⟩ := by kernel_rfl
-- pneumatic/bounds.of
def ic52 : IC := .seq (.region [oM 1 (.box (.t 0)),
  oM 2 (.mov (.c (.nilp)))] none)
 (.seq (.region [oF 4 0 1,
  oN 5 4,
  oM 6 (.bin .add (.t 5) (.c (.int .i64 1))),
  oM 7 (.build (List.replicate 170 (.int .i64 0)) [(0, 1, (.t 6))]),
  oM 8 (.box (.t 7)),
  oM 3 (.alloc [.nilp]),
  ⟨none, .store 1 (.t 3) (.t 8), none⟩] none)
 (.seq (.region [oN 9 3,
  oM 10 (.mkfn 71 [] [(.t 1), (.t 3)]),
  oM 11 (.call (.c (.fn 54 [] [])) [(.t 9), (.t 10)])] none)
 (.seq (.region [oN 12 3,
  oT 2 12] none)
 (.ret))))
theorem fn52 : env0.fn 52 = some ⟨13, ic52, [.t 2]⟩ := by kernel_rfl
def ofG (D : Nat → Nat → Int) (K i j : Nat) : Nat → Nat → Int := fun a b => if (a < i ∧ b < K) ∨ (a = i ∧ b < j) then D a b else 0
theorem of_step (D : Nat → Nat → Int) (K i j : Nat) (hj : j < K) : upG (ofG D K i j) i j (D i j) = ofG D K i (j + 1) := by
 funext a b
 unfold upG ofG
 by_cases h : a = i ∧ b = j
 ·obtain ⟨rfl, rfl⟩ := h
  rw [if_pos ⟨rfl, rfl⟩, if_pos (.inr ⟨rfl, by omega⟩)]
 ·rw [if_neg h]
  by_cases c : (a < i ∧ b < K) ∨ (a = i ∧ b < j)
  ·rw [if_pos c, if_pos (by omega)]
  ·rw [if_neg c, if_neg (by omega)]
theorem of_row (D : Nat → Nat → Int) (K i : Nat) : ofG D K i K = ofG D K (i + 1) 0 := by
 funext a b
 unfold ofG
 by_cases c : (a < i ∧ b < K) ∨ (a = i ∧ b < K)
 ·rw [if_pos c, if_pos (by omega)]
 ·rw [if_neg c, if_neg (by omega)]
structure OfI (B : HS) (s1 s2 s3 n : Nat) (D : Nat → Nat → Int) (i j : Nat) (H : HS) : Prop where
 kp : KpH B H
 hb : Am.look B.next H.heap = some (s1, .cells [.int .i64 (n : Nat), cM (zca D (n + 1))])
 hs : Am.look (B.next + 1) H.heap = some (s2, .cells (sqC (n + 1) (ofG D (n + 1) i j)))
 hc : Am.look (B.next + 2) H.heap = some (s3, .cells [.mptr (B.next + 1) s2 0])
 nx : B.next + 3 ≤ H.next
set_option maxHeartbeats 2000000 in
theorem fill71 {w0 : World} {N0 : Nat} {B : HS} {s1 s2 s3 n : Nat} {D : Nat → Nat → Int} (hn : n ≤ 12) (i j : Nat) (H : HS) (hi : i < n + 1) (hj : j < n + 1) (hI : OfI B s1 s2 s3 n D i j H) :
  FT Try.prog w0 N0 71 [.int .i64 (i : Nat), .int .i64 (j : Nat), .mptr B.next s1 0, .mptr (B.next + 2) s3 0] H fun _ H' => OfI B s1 s2 s3 n D i (j + 1) H' := by
 have hnx := hI.nx
 have hge := zgw (D := D) hi
 have hgj := zlg (D := D) (i := i) hj
 refine zeh env0_ok fn71 [(0, .int .i64 (i : Nat)), (1, .int .i64 (j : Nat)), (2, .mptr B.next s1 0), (3, .mptr (B.next + 2) s3 0)] (by show 4 ≤ 21; decide) rfl ?_
 unfold ic71
 refine zdl env0_ok rfl rfl rfl ?_
 refine zc8 (sp := s3) (cs := [.mptr (B.next + 1) s2 0]) rfl hI.hc (by omega) rfl ?_
 refine za1 rfl (za1 rfl (zai rfl ?_))
 refine zc8 (sp := s1) (cs := [.int .i64 (n : Nat), cM (zca D (n + 1))]) rfl hI.hb (by omega) rfl ?_
 unfold cM
 repeat (first | refine za1 rfl ?_ | refine zag rfl rfl ?_ | refine zai rfl ?_ | refine zb1 rfl rfl (by omega) (by assumption) rfl ?_ | refine zdr rfl rfl (decide_eq_true ⟨by omega, by omega⟩) ?_ | refine zfm rfl ?_)
 refine zbj (id := B.next + 1) (sp := s2) (cs := sqC (n + 1) (ofG D (n + 1) i j)) rfl rfl rfl hI.hs (by rw [zqm]; omega) rfl ?_
 rw [zw1 _ _ (by omega) (by omega), of_step D _ _ _ hj]
 refine za8 ?_
 refine zao ⟨.inl rfl, _, rfl, ⟨hI.kp.1, fun x hx => ?_⟩, ?_, ?_, ?_, hI.nx⟩
 ·show Am.look x (zbu (B.next + 1) _ H.heap) = _
  rw [za4, if_neg (by omega)]
  exact hI.kp.2 x hx
 ·show Am.look _ (zbu (B.next + 1) _ H.heap) = _
  rw [za4, if_neg (by omega)]
  exact hI.hb
 ·show Am.look _ (zbu (B.next + 1) _ H.heap) = _
  rw [za4, if_pos rfl]
 ·show Am.look _ (zbu (B.next + 1) _ H.heap) = _
  rw [za4, if_neg (by omega)]
  exact hI.hc
theorem of_zero (D : Nat → Nat → Int) (K : Nat) : ofG D K 0 0 = fun _ _ => 0 := by
 funext a b
 unfold ofG
 rw [if_neg (by omega)]
theorem sq_zero (k : Nat) : sqC k (fun _ _ => 0) = .int .i64 (k : Nat) :: List.replicate 169 (.int .i64 0) := by
 unfold sqC
 rw [List.map_const', y0m]
set_option maxHeartbeats 2000000 in
set_option maxRecDepth 20000 in
theorem of52 {w0 : World} {N0 : Nat} {n : Nat} {D : Nat → Nat → Int} (hn : n ≤ 12) (B : HS) :
  FT Try.prog w0 N0 52 [cB (n : Nat) (zca D (n + 1))] B fun v H' => ∃ s, v = .mptr (B.next + 1) s 0 ∧ KpH B H' ∧ Am.look (B.next + 1) H'.heap = some (s, .cells (sqC (n + 1) (ofG D (n + 1) (n + 1) 0))) ∧ B.next + 3 ≤ H'.next := by
 refine zeh env0_ok fn52 [(0, .agg [.int .i64 (n : Nat), cM (zca D (n + 1))])] (by show 1 ≤ 13; decide) rfl ?_
 unfold ic52
 have he : setAt 0 (List.replicate 170 (AV.int .i64 0)) [.int .i64 ((n + 1 : Nat) : Int)] = sqC (n + 1) (ofG D (n + 1) 0 0) := by
  rw [of_zero, sq_zero]
  rfl
 refine zsr rfl (zd6 rfl rfl (za1 rfl (onr rfl (zai rfl ?_))))
 refine zc8 rfl zah (by omega) rfl ?_
 refine zav (op := .add) rfl rfl rfl ?_
 rw [zab n (by omega)]
 refine zft rfl rfl ?_
 rw [he]
 refine zd6 rfl rfl ?_
 refine zcp ?_
 refine zbj (id := B.next + 1 + 1) rfl rfl rfl zah (y0q 0) rfl ?_
 rw [zhn]
 refine onr rfl ?_
 refine zc8 rfl zah (by omega) rfl ?_
 refine zv5 rfl rfl ?_
 have hy : ∀ i j H, i < n + 1 → j < n + 1 → OfI B B.clk (B.clk + 1) (B.clk + 1 + 1) n D i j H → CT Try.prog w0 N0 (.fn 71 [] [.mptr B.next B.clk 0, .mptr (B.next + 2) (B.clk + 1 + 1) 0]) [.int .i64 (i : Nat), .int .i64 (j : Nat)] H fun _ H' => OfI B B.clk (B.clk + 1) (B.clk + 1 + 1) n D i (j + 1) H' :=
  fun i j H hi hj hI => zi8 (fill71 hn i j H hi hj hI)
 refine zry _ rfl rfl (zi8 (each54 (by omega) (OfI B B.clk (B.clk + 1) (B.clk + 1 + 1) n D) (fun i j H hI => ⟨⟨_, hI.hs⟩, by have := hI.nx; omega⟩) hy (fun i H _ hI => ⟨hI.kp, hI.hb, by rw [← of_row]; exact hI.hs, hI.hc, hI.nx⟩) ⟨_, _, _⟩ ?_)) (fun _ _ _ _ hm => absurd hm y0h) fun v H2 hF => ?_
 ·refine ⟨⟨by show B.next ≤ B.next + 1 + 1 + 1; omega, fun x hx => ?_⟩, ?_, ?_, zah, by show B.next + 3 ≤ B.next + 1 + 1 + 1; omega⟩
  ·dsimp only
   rw [za3, if_neg (by omega), za3, if_neg (by omega), za3, if_neg (by omega)]
  ·dsimp only
   rw [za3, if_neg (by omega), za3, if_neg (by omega)]
   exact zah
  ·dsimp only
   rw [za3, if_neg (by omega)]
   exact zah
 have hnx := hF.nx
 refine onr rfl ?_
 refine zc8 rfl hF.hc (by omega) rfl ?_
 refine za1 rfl (onu (zau ?_))
 exact zao ⟨.inr rfl, _, rfl, _, rfl, hF.kp, hF.hs, hF.nx⟩
-- (*pneumatic/bounds.square).lower
def ic73 : IC := .seq (.region [oT 8 0,
  oT 9 1,
  oT 10 2,
  oM 11 (.nilchk (.t 8)),
  oF 12 1 11,
  oM 13 (.idxarr 13 13 (.t 12) (.t 9)),
  oM 14 (.idxarr 13 1 (.t 13) (.t 10)),
  oN 15 14,
  oM 16 (.bin .eql (.t 15) (.c (.int .i64 (-1099511627776)))),
  oT 17 16,
  ⟨(some 18), .mov (.t 3), some (17, false)⟩,
  ⟨(some 19), .mov (.t 0), some (17, false)⟩,
  ⟨(some 20), .mov (.t 1), some (17, false)⟩,
  ⟨(some 21), .mov (.t 2), some (17, false)⟩,
  ⟨(some 22), .nilchk (.t 19), some (17, false)⟩,
  ⟨(some 23), .faddr 1 (.t 22), some (17, false)⟩,
  ⟨(some 24), .idxarr 13 13 (.t 23) (.t 20), some (17, false)⟩,
  ⟨(some 25), .idxarr 13 1 (.t 24) (.t 21), some (17, false)⟩,
  ⟨(some 26), .load none (.t 25), some (17, false)⟩,
  ⟨(some 27), .bin .lss (.t 18) (.t 26), some (17, false)⟩,
  oM 28 (.pick (.t 17) (.c (.bool true)) (.t 27))] none)
 (.cond (.t 28) (.region [oT 29 0,
  oT 30 1,
  oT 31 2,
  oT 32 3,
  oM 33 (.nilchk (.t 29)),
  oF 34 1 33,
  oM 35 (.idxarr 13 13 (.t 34) (.t 30)),
  oM 36 (.idxarr 13 1 (.t 35) (.t 31)),
  ⟨none, .store 1 (.t 36) (.t 32), none⟩] none)
 (.skip))
theorem fn73 : env0.fn 73 = some ⟨37, ic73, []⟩ := by kernel_rfl
def lowG (G : Nat → Nat → Int) (i j : Nat) (x : Int) : Nat → Nat → Int := if G i j = nnB ∨ x < G i j then upG G i j x else G
def KpX (id : Nat) (B H : HS) : Prop := H.next = B.next ∧ ∀ j, j ≠ id → Am.look j H.heap = Am.look j B.heap
set_option maxHeartbeats 2000000 in
set_option maxRecDepth 20000 in
theorem lower73 {w0 : World} {N0 : Nat} {id sp k : Nat} {G : Nat → Nat → Int} {i j : Nat} (hi : i < 13) (hj : j < 13) (x : Int) (H : HS) (hl : Am.look id H.heap = some (sp, .cells (sqC k G))) (hid : id < H.next) :
  FT Try.prog w0 N0 73 [.mptr id sp 0, .int .i64 (i : Nat), .int .i64 (j : Nat), .int .i64 x] H fun _ H' => KpX id H H' ∧ Am.look id H'.heap = some (sp, .cells (sqC k (lowG G i j x))) := by
 have hg := zql k G hi hj
 refine zeh env0_ok fn73 [(0, .mptr id sp 0), (1, .int .i64 (i : Nat)), (2, .int .i64 (j : Nat)), (3, .int .i64 x)] (by show 4 ≤ 37; decide) rfl ?_
 unfold ic73
 repeat (first | refine za7 ?_ | refine za0 rfl ?_ | refine za1 rfl ?_ | refine zai rfl ?_ | refine zdr rfl rfl (decide_eq_true ⟨by omega, by omega⟩) ?_ | refine zfm rfl ?_)
 refine zap (id := id) (sp := sp) rfl hl hid hg ?_
 unfold lowG
 refine zam rfl rfl rfl (fun h1 => ?_) fun h1 => ?_
 ·have hx : G i j = nnB := by unfold nnB; simpa using h1
  rw [if_pos (.inl hx)]
  repeat (first | refine za0 rfl ?_ | refine za8 ?_ | refine za5 ?_ | refine zbz rfl ?_ | refine zgo rfl rfl ?_ | refine za1 rfl ?_ | refine zai rfl ?_ | refine zb9 rfl rfl ?_ | refine zdr rfl rfl (decide_eq_true ⟨by omega, by omega⟩) ?_ | refine zfm rfl ?_)
  refine zbj (id := id) (sp := sp) (cs := sqC k G) rfl rfl rfl hl (by rw [zqm]; omega) rfl ?_
  rw [zw1 _ _ hi hj]
  refine za8 ?_
  refine zao ⟨.inl rfl, _, rfl, ⟨rfl, fun y hy => ?_⟩, ?_⟩
  ·show Am.look y (zbu id _ H.heap) = _
   rw [za4, if_neg (fun e => hy e.symm)]
  ·show Am.look id (zbu id _ H.heap) = _
   rw [za4, if_pos rfl]
 ·have hx : G i j ≠ nnB := by unfold nnB; simpa using h1
  repeat (first | refine ze4 rfl ?_ | refine za1 rfl ?_ | refine zai rfl ?_ | refine zdr rfl rfl (decide_eq_true ⟨by omega, by omega⟩) ?_ | refine zfm rfl ?_)
  refine zap (id := id) (sp := sp) rfl hl hid hg ?_
  refine ze4 rfl ?_
  refine zam rfl rfl rfl (fun h2 => ?_) fun h2 => ?_
  ·rw [if_pos (.inr (of_decide_eq_true h2))]
   repeat (first | refine za0 rfl ?_ | refine za8 ?_ | refine za5 ?_ | refine zbz rfl ?_ | refine za1 rfl ?_ | refine zai rfl ?_ | refine zb4 rfl rfl ?_ | refine zdr rfl rfl (decide_eq_true ⟨by omega, by omega⟩) ?_ | refine zfm rfl ?_)
   refine zbj (id := id) (sp := sp) (cs := sqC k G) rfl rfl rfl hl (by rw [zqm]; omega) rfl ?_
   rw [zw1 _ _ hi hj]
   refine za8 ?_
   refine zao ⟨.inl rfl, _, rfl, ⟨rfl, fun y hy => ?_⟩, ?_⟩
   ·show Am.look y (zbu id _ H.heap) = _
    rw [za4, if_neg (fun e => hy e.symm)]
   ·show Am.look id (zbu id _ H.heap) = _
    rw [za4, if_pos rfl]
  ·rw [if_neg (fun c => c.elim hx (of_decide_eq_false h2))]
   refine zb4 rfl rfl (onu (zbn rfl (zae ?_)))
   exact zao ⟨.inl rfl, _, rfl, ⟨rfl, fun _ _ => rfl⟩, hl⟩
-- (*pneumatic/bounds.square).close$1
def ic72 : IC := .seq (.region [oN 8 2,
  oT 9 0,
  oN 10 3,
  oM 11 (.nilchk (.t 8)),
  oF 12 1 11,
  oM 13 (.idxarr 13 13 (.t 12) (.t 9)),
  oM 14 (.idxarr 13 1 (.t 13) (.t 10)),
  oN 15 14,
  oN 16 2,
  oN 17 3,
  oT 18 1,
  oM 19 (.nilchk (.t 16)),
  oF 20 1 19,
  oM 21 (.idxarr 13 13 (.t 20) (.t 17)),
  oM 22 (.idxarr 13 1 (.t 21) (.t 18)),
  oN 23 22,
  oT 6 15,
  oT 7 23] (some [[], [], [], [0], [3], [4, 1], [5, 2], [6], [], [], [], [8], [11], [12, 9], [13, 10], [14], [7, 0, 1, 2, 3, 4, 5, 6, 7], [15, 16, 0, 1, 2, 3, 4, 5, 6, 7, 8, 9, 10, 11, 12, 13, 14, 15, 16]]))
 (.seq (.region [oT 24 6,
  oM 25 (.bin .neq (.t 24) (.c (.int .i64 (-1099511627776)))),
  oT 26 25,
  ⟨(some 27), .mov (.t 7), some (26, true)⟩,
  ⟨(some 28), .bin .neq (.t 27) (.c (.int .i64 (-1099511627776))), some (26, true)⟩,
  oM 29 (.pick (.t 26) (.t 28) (.c (.bool false)))] none)
 (.cond (.t 29) (.region [oN 30 2,
  oT 31 0,
  oT 32 1,
  oT 33 6,
  oT 34 7,
  oM 35 (.bin .add (.t 33) (.t 34)),
  oM 36 (.call (.c (.fn 73 [] [])) [(.t 30), (.t 31), (.t 32), (.t 35)])] none)
 (.skip)))
theorem fn72 : env0.fn 72 = some ⟨37, ic72, []⟩ := by kernel_rfl
def clG (G : Nat → Nat → Int) (K k i j : Nat) : Nat → Nat → Int := fun a b => if (a < i ∧ b < K) ∨ (a = i ∧ b < j) then fwP k G a b else G a b
theorem cl_row (G : Nat → Nat → Int) (K k i : Nat) : clG G K k i K = clG G K k (i + 1) 0 := by
 funext a b
 unfold clG
 by_cases c : (a < i ∧ b < K) ∨ (a = i ∧ b < K)
 ·rw [if_pos c, if_pos (by omega)]
 ·rw [if_neg c, if_neg (by omega)]
theorem cl_zero (G : Nat → Nat → Int) (K k : Nat) : clG G K k 0 0 = G := by
 funext a b
 unfold clG
 rw [if_neg (by omega)]
theorem cl_step (G : Nat → Nat → Int) (K k i j : Nat) (hi : i < K) (hj : j < K) (hk : k < K) (h1 : ∀ a, a < K → fwP k G a k = G a k) (h2 : ∀ b, b < K → fwP k G k b = G k b) :
  clG G K k i j i k = G i k ∧ clG G K k i j k j = G k j ∧ clG G K k i j i j = G i j ∧ (if G i k ≠ nnB ∧ G k j ≠ nnB then lowG (clG G K k i j) i j (G i k + G k j) else clG G K k i j) = clG G K k i (j + 1) := by
 have e1 : clG G K k i j i k = G i k := by
  unfold clG
  split
  ·exact h1 i hi
  ·rfl
 have e2 : clG G K k i j k j = G k j := by
  unfold clG
  split
  ·exact h2 j hj
  ·rfl
 have e3 : clG G K k i j i j = G i j := by
  unfold clG
  rw [if_neg (by omega)]
 refine ⟨e1, e2, e3, ?_⟩
 have key : ∀ a b, ¬ (a = i ∧ b = j) → clG G K k i j a b = clG G K k i (j + 1) a b := fun a b h => by
  unfold clG
  by_cases c : (a < i ∧ b < K) ∨ (a = i ∧ b < j)
  ·rw [if_pos c, if_pos (by omega)]
  ·rw [if_neg c, if_neg (by omega)]
 have last : clG G K k i (j + 1) i j = fwP k G i j := by
  unfold clG
  rw [if_pos (.inr ⟨rfl, by omega⟩)]
 funext a b
 by_cases h : a = i ∧ b = j
 ·obtain ⟨rfl, rfl⟩ := h
  rw [last]
  unfold fwP
  by_cases c : G a k ≠ nnB ∧ G k b ≠ nnB
  ·rw [if_pos c]
   unfold lowG
   rw [e3]
   by_cases d : G a b = nnB ∨ G a k + G k b < G a b
   ·rw [if_pos d, if_pos ⟨c.1, c.2, d⟩]
    unfold upG
    rw [if_pos ⟨rfl, rfl⟩]
   ·rw [if_neg d, if_neg (fun x => d x.2.2)]
    exact e3
  ·rw [if_neg c, if_neg (fun x => c ⟨x.1, x.2.1⟩)]
   exact e3
 ·rw [← key a b h]
  split
  ·unfold lowG
   split
   ·unfold upG
    rw [if_neg h]
   ·rfl
  ·rfl
structure ClI (B : HS) (id sp b1 t1 c1 u1 K k : Nat) (G : Nat → Nat → Int) (i j : Nat) (H : HS) : Prop where
 kp : ∀ x, x < B.next → x ≠ id → Am.look x H.heap = Am.look x B.heap
 hs : Am.look id H.heap = some (sp, .cells (sqC K (clG G K k i j)))
 hb : Am.look b1 H.heap = some (t1, .cells [.mptr id sp 0])
 hc : Am.look c1 H.heap = some (u1, .cells [.int .i64 (k : Nat)])
 nx : B.next ≤ H.next ∧ id < H.next ∧ b1 < H.next ∧ c1 < H.next
set_option maxHeartbeats 2000000 in
set_option maxRecDepth 20000 in
theorem pair72 {w0 : World} {N0 : Nat} {B : HS} {id sp b1 t1 c1 u1 K k : Nat} {G : Nat → Nat → Int} (hK : K ≤ 13) (hk : k < K) (hb1 : b1 ≠ id) (hc1 : c1 ≠ id) (h1 : ∀ a, a < K → fwP k G a k = G a k) (h2 : ∀ b, b < K → fwP k G k b = G k b)
  (hr : ∀ a b, a < K → b < K → G a b = nnB ∨ (-1000000 ≤ G a b ∧ G a b ≤ 1000000)) (i j : Nat) (H : HS) (hi : i < K) (hj : j < K) (hI : ClI B id sp b1 t1 c1 u1 K k G i j H) :
  FT Try.prog w0 N0 72 [.int .i64 (i : Nat), .int .i64 (j : Nat), .mptr b1 t1 0, .mptr c1 u1 0] H fun _ H' => ClI B id sp b1 t1 c1 u1 K k G i (j + 1) H' := by
 obtain ⟨e1, e2, e3, e4⟩ := cl_step G K k i j hi hj hk h1 h2
 have hnx := hI.nx
 have g1 := zql K (clG G K k i j) (i := i) (j := k) (by omega) (by omega)
 have g2 := zql K (clG G K k i j) (i := k) (j := j) (by omega) (by omega)
 rw [e1] at g1
 rw [e2] at g2
 have r1 := hr i k hi hk
 have r2 := hr k j hk hj
 refine zeh env0_ok fn72 [(0, .int .i64 (i : Nat)), (1, .int .i64 (j : Nat)), (2, .mptr b1 t1 0), (3, .mptr c1 u1 0)] (by show 4 ≤ 37; decide) rfl ?_
 unfold ic72
 refine za7 (zdl env0_ok rfl rfl rfl ?_)
 refine zc8 rfl hI.hb (by omega) rfl ?_
 refine za1 rfl ?_
 refine zc8 rfl hI.hc (by omega) rfl ?_
 repeat (first | refine zai rfl ?_ | refine zdr rfl rfl (decide_eq_true ⟨by omega, by omega⟩) ?_ | refine zfm rfl ?_)
 refine zap (id := id) (sp := sp) rfl hI.hs (by omega) g1 ?_
 refine zc8 rfl hI.hb (by omega) rfl ?_
 refine zc8 rfl hI.hc (by omega) rfl ?_
 repeat (first | refine za1 rfl ?_ | refine zai rfl ?_ | refine zdr rfl rfl (decide_eq_true ⟨by omega, by omega⟩) ?_ | refine zfm rfl ?_)
 refine zap (id := id) (sp := sp) rfl hI.hs (by omega) g2 ?_
 refine za1 rfl (za1 rfl (onr rfl (za1 rfl ?_)))
 refine zam rfl rfl rfl (fun h5 => ?_) fun h5 => ?_
 ·have hx : G i k ≠ nnB := by unfold nnB; simpa using h5
  refine za1 rfl (ze4 rfl (za1 rfl (ze4 rfl ?_)))
  refine zam rfl rfl rfl (fun h6 => ?_) fun h6 => ?_
  ·have hy : G k j ≠ nnB := by unfold nnB; simpa using h6
   rw [if_pos ⟨hx, hy⟩] at e4
   have r1 := r1.resolve_left hx
   have r2 := r2.resolve_left hy
   refine zb9 rfl rfl (onu (zbz rfl (za0 rfl ?_)))
   refine zc8 rfl hI.hb (by omega) rfl ?_
   repeat (first | refine za1 rfl ?_ | refine zav (op := .add) rfl rfl rfl ?_)
   rw [zd8 _ (by omega) (by omega)]
   refine zry _ rfl rfl (zi8 (lower73 (k := K) (show i < 13 by omega) (show j < 13 by omega) (G i k + G k j) ⟨_, _, _⟩ hI.hs hnx.2.1)) (fun _ _ _ _ hm => absurd hm y0h) fun v H2 hF => ?_
   obtain ⟨⟨n1, n2⟩, n3⟩ := hF
   have n1 : H2.next = H.next := n1
   refine za8 ?_
   exact zao ⟨.inl rfl, _, rfl, ⟨fun x hx1 hx2 => (n2 x hx2).trans (hI.kp x hx1 hx2), by rw [← e4]; exact n3, (n2 b1 hb1).trans hI.hb, (n2 c1 hc1).trans hI.hc, by show B.next ≤ H2.next ∧ id < H2.next ∧ b1 < H2.next ∧ c1 < H2.next; rw [n1]; exact hnx⟩⟩
  ·have hy : G k j = nnB := by unfold nnB; simpa using h6
   rw [if_neg (fun c => c.2 hy)] at e4
   refine zb9 rfl rfl (onu (zbn rfl (zae ?_)))
   exact zao ⟨.inl rfl, _, rfl, ⟨hI.kp, by rw [← e4]; exact hI.hs, hI.hb, hI.hc, hnx⟩⟩
 ·have hx : G i k = nnB := by unfold nnB; simpa using h5
  rw [if_neg (fun c => c.1 hx)] at e4
  refine za1 rfl (zgo rfl rfl (zgo rfl rfl (zb4 rfl rfl (onu (zbn rfl (zae ?_))))))
  exact zao ⟨.inl rfl, _, rfl, ⟨hI.kp, by rw [← e4]; exact hI.hs, hI.hb, hI.hc, hnx⟩⟩
def b53_0 : IC := .seq (.region [oM 8 (.bin .lss (.t 7) (.t 6))] none)
 (.seq (.cond (.t 8) (.skip)
 (.exit 0))
 (.seq (.block 1 (.seq (.region [oT 9 7,
  oM 2 (.alloc [.int .i64 0]),
  ⟨none, .store 1 (.t 2) (.t 9), none⟩] none)
 (.region [oN 10 1,
  oM 11 (.mkfn 72 [] [(.t 1), (.t 2)]),
  oM 12 (.call (.c (.fn 54 [] [])) [(.t 10), (.t 11)])] none)))
 (.region [oM 13 (.bin .add (.t 7) (.c (.int .i64 1))),
  oT 7 13] none)))
-- (*pneumatic/bounds.square).close
def ic53 : IC := .seq (.region [oM 1 (.box (.t 0))] none)
 (.seq (.region [oN 3 1,
  oM 4 (.nilchk (.t 3)),
  oF 5 0 4,
  oN 6 5,
  oM 7 (.mov (.c (.int .i64 0)))] none)
 (.block 0 (.loop b53_0)))
theorem fn53 : env0.fn 53 = some ⟨14, ic53, []⟩ := by kernel_rfl
structure PvO (K : Nat) (Gs : Nat → Nat → Nat → Int) : Prop where
 row : ∀ k b, k < K → b < K → fwP k (Gs k) k b = Gs k k b
 col : ∀ k a, k < K → a < K → fwP k (Gs k) a k = Gs k a k
 rng : ∀ k a b, k < K → a < K → b < K → Gs k a b = nnB ∨ (-1000000 ≤ Gs k a b ∧ Gs k a b ≤ 1000000)
 nxt : ∀ k, k < K → clG (Gs k) K k K 0 = Gs (k + 1)
set_option maxHeartbeats 2000000 in
set_option maxRecDepth 20000 in
theorem close53 {w0 : World} {N0 : Nat} {id sp K : Nat} {Gs : Nat → Nat → Nat → Int} (hK : K ≤ 13) (hp : PvO K Gs) (B : HS) (hl : Am.look id B.heap = some (sp, .cells (sqC K (Gs 0)))) (hid : id < B.next) :
  FT Try.prog w0 N0 53 [.mptr id sp 0] B fun _ H' => (∀ x, x < B.next → x ≠ id → Am.look x H'.heap = Am.look x B.heap) ∧ Am.look id H'.heap = some (sp, .cells (sqC K (Gs K))) ∧ B.next ≤ H'.next := by
 refine zeh env0_ok fn53 [(0, .mptr id sp 0)] (by show 1 ≤ 14; decide) rfl ?_
 unfold ic53
 refine zsr rfl (zd6 rfl rfl (onr rfl ?_))
 refine zc8 rfl zah (by omega) rfl ?_
 refine zfm rfl (zai rfl ?_)
 refine zc8 (id := id) (sp := sp) (cs := sqC K (Gs 0)) rfl (by rw [za3, if_neg (by omega)]; exact hl) (by omega) rfl ?_
 refine za1 rfl (onu (zac ?_))
 refine zb8 (fun mm S => ∃ (k : Nat) (H' : HS), mm = K - k ∧ k ≤ K ∧ (∀ x, x < B.next → x ≠ id → Am.look x H'.heap = Am.look x B.heap) ∧ Am.look id H'.heap = some (sp, .cells (sqC K (Gs k))) ∧ Am.look B.next H'.heap = some (B.clk, .cells [.mptr id sp 0]) ∧ B.next < H'.next ∧
   S = st 14 [(1, .mptr B.next B.clk 0), (6, .int .i64 (K : Nat)), (7, .int .i64 (k : Nat))] H'.heap H'.next H'.clk) K
  (za9 (.cons rfl (.cons rfl (.cons rfl .nil)))) ⟨0, ⟨_, _, _⟩, rfl, y0s _, fun x hx1 hx2 => ?_, ?_, ?_, ?_, rfl⟩ ?_
 ·dsimp only
  rw [za3, if_neg (by omega)]
 ·dsimp only
  rw [za3, if_neg (by omega)]
  exact hl
 ·exact zah
 ·exact y0q _
 rintro mm S ⟨k, H', rfl, hk, kp, hs, hb, hnx, rfl⟩
 unfold b53_0
 refine zsr rfl ?_
 refine zam rfl rfl rfl (fun h1 => ?_) fun h1 => ?_
 ·have hlt : k < K := y0x.1 (of_decide_eq_true h1)
  refine onu (za7 (zbz rfl (zae (za5 (za7 (zac (zsr rfl (za1 rfl (zcp ?_)))))))))
  refine zbj (id := H'.next) rfl rfl rfl zah (y0q 0) rfl ?_
  rw [zhn]
  refine onR rfl ?_
  refine zc8 (sp := B.clk) (cs := [.mptr id sp 0]) rfl (by rw [za3, if_neg (by omega)]; exact hb) (by omega) rfl ?_
  refine zv5 rfl rfl ?_
  have hy : ∀ i j H, i < K → j < K → ClI H' id sp B.next B.clk H'.next H'.clk K k (Gs k) i j H → CT Try.prog w0 N0 (.fn 72 [] [.mptr B.next B.clk 0, .mptr H'.next H'.clk 0]) [.int .i64 (i : Nat), .int .i64 (j : Nat)] H fun _ H2 => ClI H' id sp B.next B.clk H'.next H'.clk K k (Gs k) i (j + 1) H2 :=
   fun i j H hi hj hI => zi8 (pair72 hK hlt (by omega) (by omega) (fun a ha => hp.col k a hlt ha) (fun b hb => hp.row k b hlt hb) (fun a b ha hb => hp.rng k a b hlt ha hb) i j H hi hj hI)
  refine zry _ rfl rfl (zi8 (each54 hK (ClI H' id sp B.next B.clk H'.next H'.clk K k (Gs k)) (fun i j H hI => ⟨⟨_, hI.hs⟩, hI.nx.2.1⟩) hy (fun i H _ hI => ⟨hI.kp, by rw [← cl_row]; exact hI.hs, hI.hb, hI.hc, hI.nx⟩) ⟨_, _, _⟩ ⟨fun x hx _ => ?_, ?_, ?_, ?_, ?_⟩)) (fun _ _ _ _ hm => absurd hm y0h) fun v H2 hF => ?_
  ·dsimp only
   rw [za3, if_neg (by omega)]
  ·dsimp only
   rw [za3, if_neg (by omega), cl_zero]
   exact hs
  ·dsimp only
   rw [za3, if_neg (by omega)]
   exact hb
  ·exact zah
  ·show H'.next ≤ H'.next + 1 ∧ id < H'.next + 1 ∧ B.next < H'.next + 1 ∧ H'.next < H'.next + 1
   omega
  have hn2 := hF.nx
  refine za8 (zbd (za5 (za0 rfl (zav (op := .add) rfl rfl rfl (za1 rfl (za8 ?_))))))
  rw [zab k (by omega)]
  exact zal (show K - (k + 1) < K - k by omega) (za9 (.cons rfl (.cons rfl (.cons rfl .nil)))) ⟨k + 1, H2, rfl, hlt, fun x hx1 hx2 => (hF.kp x (by omega) hx2).trans (kp x hx1 hx2), by rw [← hp.nxt k hlt]; exact hF.hs, hF.hb, by omega, rfl⟩
 ·obtain rfl : k = K := by have := of_decide_eq_false h1; omega
  refine onu (za7 (zbn rfl (zbb (zad ?_))))
  refine zby ?_
  refine zb7 ?_
  exact zao ⟨.inl rfl, _, rfl, kp, hs, Nat.le_of_lt hnx⟩
def cI (K : Nat) (f : Nat → Int) : List AV := (List.range K).map fun j => AV.int .i64 (f j)
theorem zm2 {K j : Nat} (f : Nat → Int) (h : j < K) : (cI K f)[j]? = some (.int .i64 (f j)) := by
 unfold cI
 rw [y0d, y1c h]
 rfl
theorem zp6 (K j : Nat) (f : Nat → Int) (x : Int) : (cI K f).set j (.int .i64 x) = cI K (upd f j x) := by
 unfold cI
 rw [map_set]
 refine y1x fun k _ => ?_
 unfold upd
 split
 ·rfl
 ·rfl
theorem zp5 (K : Nat) (f : Nat → Int) : (cI K f).length = K := by
 unfold cI
 rw [y04, y0m]
theorem zkd {K : Nat} {f g : Nat → Int} (h : ∀ j, j < K → f j = g j) : cI K f = cI K g := by
 unfold cI
 refine y1x fun k hk => ?_
 rw [h k (y0j.1 hk)]
theorem zin (K : Nat) (f : Nat → Int) : hasM.hasML (cI K f) = false := by
 have h := zc4 ((List.range K).map f)
 rw [y1v] at h
 exact h
def rvF (f : Nat → Int) (t k i : Nat) : Int := if i < k ∨ t ≤ i + k then f (t - 1 - i) else f i
theorem rvF_zero (f : Nat → Int) (t i : Nat) (h : i < t) : rvF f t 0 i = f i := by
 unfold rvF
 rw [if_neg (by omega)]
theorem rvF_end (f : Nat → Int) (t k i : Nat) (h : i < t) (hk : t ≤ 2 * k + 1) : rvF f t k i = f (t - 1 - i) := by
 unfold rvF
 by_cases c : i < k ∨ t ≤ i + k
 ·rw [if_pos c]
 ·rw [if_neg c, show t - 1 - i = i by omega]
theorem rvF_step (f : Nat → Int) (t k : Nat) (hk : 2 * k + 1 < t) : upd (upd (rvF f t k) k (f (t - 1 - k))) (t - 1 - k) (f k) = rvF f t (k + 1) := by
 funext i
 unfold upd rvF
 by_cases e1 : i = t - 1 - k
 ·rw [if_pos e1, if_pos (by omega), show t - 1 - i = k by omega]
 ·rw [if_neg e1]
  by_cases e2 : i = k
  ·rw [if_pos e2, if_pos (by omega), e2]
  ·rw [if_neg e2]
   by_cases c : i < k ∨ t ≤ i + k
   ·rw [if_pos c, if_pos (by omega)]
   ·rw [if_neg c, if_neg (by omega)]
def b70_0 : IC := .seq (.seq (.region [oT 7 2,
  oT 8 3,
  oM 9 (.bin .lss (.t 7) (.t 8))] none)
 (.cond (.t 9) (.skip)
 (.exit 0)))
 (.seq (.block 1 (.region [oT 14 0,
  oT 15 2,
  oT 16 0,
  oT 17 3,
  oT 18 0,
  oT 19 3,
  oM 20 (.idxs 1 (.t 18) (.t 19)),
  oN 21 20,
  oT 22 0,
  oT 23 2,
  oM 24 (.idxs 1 (.t 22) (.t 23)),
  oN 25 24,
  oM 26 (.idxs 1 (.t 14) (.t 15)),
  ⟨none, .store 1 (.t 26) (.t 21), none⟩,
  oM 27 (.idxs 1 (.t 16) (.t 17)),
  ⟨none, .store 1 (.t 27) (.t 25), none⟩] (some [[], [], [], [], [], [], [4, 5], [6], [], [], [8, 9], [10], [0, 1, 0, 1, 4, 5, 6, 7, 11], [12, 7, 0, 1, 4, 5, 6, 7, 11], [2, 3, 0, 1, 2, 3, 4, 5, 6, 7, 8, 9, 10, 11, 12, 13], [14, 11, 13, 0, 1, 2, 3, 4, 5, 6, 7, 8, 9, 10, 11, 12, 13]])))
 (.region [oT 10 2,
  oM 11 (.bin .add (.t 10) (.c (.int .i64 1))),
  oT 12 3,
  oM 13 (.bin .sub (.t 12) (.c (.int .i64 1))),
  oT 2 11,
  oT 3 13] none))
-- slices.Reverse[[]int,int]
def ic70 : IC := .seq (.region [oT 4 0,
  oM 5 (.len false (.t 4)),
  oM 6 (.bin .sub (.t 5) (.c (.int .i64 1))),
  oM 2 (.mov (.c (.int .i64 0))),
  oT 3 6] none)
 (.block 0 (.loop b70_0))
theorem fn70 : env0.fn 70 = some ⟨28, ic70, []⟩ := by kernel_rfl
set_option maxHeartbeats 2000000 in
set_option maxRecDepth 20000 in
theorem zvp {w0 : World} {N0 : Nat} {id sp t : Nat} {cap : Option Nat} {f : Nat → Int} (h1 : 1 ≤ t) (ht : t ≤ 1000) (H : HS) (hl : Am.look id H.heap = some (sp, .cells (cI t f))) (hid : id < H.next) :
  FT Try.prog w0 N0 70 [.ms id sp 1 0 t cap] H fun _ H' => KpX id H H' ∧ Am.look id H'.heap = some (sp, .cells (cI t fun i => f (t - 1 - i))) := by
 have ez : ∀ o : Nat, 0 + ((o : Nat) : Int).toNat * 1 = o := fun o => by simp
 refine zeh env0_ok fn70 [(0, .ms id sp 1 0 t cap)] (by show 1 ≤ 28; decide) rfl ?_
 unfold ic70
 refine zsr rfl (za1 rfl (zbl rfl rfl (zav (op := .sub) rfl rfl rfl (za1 rfl (za1 rfl (onu (zac ?_)))))))
 rw [zd8 _ (by omega) (by omega), show ((t : Nat) : Int) - 1 = ((t - 1 - 0 : Nat) : Int) by omega]
 refine zb8 (fun mm S => ∃ (k : Nat) (H' : HS), mm = t - k ∧ 2 * k ≤ t ∧ KpX id H H' ∧ Am.look id H'.heap = some (sp, .cells (cI t (rvF f t k))) ∧ S = st 28 [(0, .ms id sp 1 0 t cap), (2, .int .i64 (k : Nat)), (3, .int .i64 ((t - 1 - k : Nat) : Int))] H'.heap H'.next H'.clk) t
  (za9 (.cons rfl (.cons rfl (.cons rfl .nil)))) ⟨0, H, rfl, y0s _, ⟨rfl, fun _ _ => rfl⟩, ?_, rfl⟩ ?_
 ·rw [hl, zkd fun j hj => (rvF_zero f t j hj).symm]
 rintro mm S ⟨k, ⟨hp, nx, ck⟩, rfl, hk, ⟨k1, k2⟩, hs, rfl⟩
 have k1 : nx = H.next := k1
 have hs : Am.look id hp = some (sp, .cells (cI t (rvF f t k))) := hs
 have k2 : ∀ j, j ≠ id → Am.look j hp = Am.look j H.heap := k2
 unfold b70_0
 dsimp only
 refine za7 (zsr rfl (za1 rfl (za1 rfl ?_)))
 refine zam rfl rfl rfl (fun h2 => ?_) fun h2 => ?_
 ·have hlt : 2 * k + 1 < t := by have := of_decide_eq_true h2; omega
  refine onu (zbz rfl (zae (za5 (za7 (zac (zdl env0_ok rfl rfl rfl (za1 rfl (za1 rfl (za1 rfl (za1 rfl (za1 rfl (za1 rfl ?_))))))))))))
  refine zax rfl rfl (by omega) (by omega) ?_
  rw [ez]
  refine zap (id := id) (sp := sp) rfl hs (by omega) (zm2 (rvF f t k) (show t - 1 - k < t by omega)) ?_
  refine za1 rfl (za1 rfl (zax rfl rfl (by omega) (by omega) ?_))
  rw [ez]
  refine zap (id := id) (sp := sp) rfl hs (by omega) (zm2 (rvF f t k) (show k < t by omega)) ?_
  refine zax rfl rfl (by omega) (by omega) ?_
  rw [ez]
  refine zbj (id := id) (sp := sp) (off := k) (cs := cI t (rvF f t k)) rfl rfl rfl hs (by rw [zp5]; omega) rfl ?_
  refine zax rfl rfl (by omega) (by omega) ?_
  rw [ez, zp6]
  refine zbj (id := id) (sp := sp) (off := t - 1 - k) rfl rfl rfl (by rw [za4, if_pos rfl]) (by rw [zp5]; omega) rfl ?_
  rw [zp6, show rvF f t k (t - 1 - k) = f (t - 1 - k) by unfold rvF; rw [if_neg (by omega)], show rvF f t k k = f k by unfold rvF; rw [if_neg (by omega)], rvF_step f t k hlt]
  refine za8 (zbd (za5 (za0 rfl (za1 rfl (zav (op := .add) rfl rfl rfl (za1 rfl (zav (op := .sub) rfl rfl rfl (za1 rfl (za1 rfl (za8 ?_))))))))))
  rw [zab k (by omega), zd8 _ (by omega) (by omega), show ((t - 1 - k : Nat) : Int) - 1 = ((t - 1 - (k + 1) : Nat) : Int) by omega]
  generalize hg : zbu id _ _ = hp2
  refine zal (show t - (k + 1) < t - k by omega) (za9 (.cons rfl (.cons rfl (.cons rfl .nil)))) ⟨k + 1, ⟨_, _, _⟩, rfl, by omega, ⟨k1, fun j hj => ?_⟩, ?_, rfl⟩
  ·show Am.look j hp2 = _
   rw [← hg, za4, if_neg (fun e => hj e.symm), za4, if_neg (fun e => hj e.symm)]
   exact k2 j hj
  ·show Am.look id hp2 = _
   rw [← hg, za4, if_pos rfl]
 ·have hge : t ≤ 2 * k + 1 := by have := of_decide_eq_false h2; omega
  refine onu (zbn rfl (zbb (zad ?_)))
  refine zby ?_
  refine zb7 ?_
  refine zao ⟨.inl rfl, _, rfl, ⟨k1, k2⟩, ?_⟩
  show Am.look id hp = _
  rw [hs, zkd fun j hj => rvF_end f t k j hj hge]
def cP (K : Nat) (P : Nat → Nat) : List AV := cI K fun j => ((P j : Nat) : Int)
theorem cP_set (K j i : Nat) (P : Nat → Nat) : (cP K P).set j (.int .i64 (i : Nat)) = cP K (upd P j i) := by
 unfold cP
 rw [zp6]
 refine zkd fun k _ => ?_
 unfold upd
 split
 ·rfl
 ·rfl
def hB (K : Nat) (s : BF) : List (Nat × Nat × AObj) := [(0, 0, .cells (cI K s.F)), (1, 0, .cells (cP K s.P))]
def lM (D : Nat → Nat → Int) (n : Nat) : List (Nat × AV) := [(1, .vptr [.int .i64 (n : Nat), cM (zca D (n + 1))]), (3, .int .i64 ((n + 1 : Nat) : Int)), (4, .ms 0 0 1 0 (n + 1) (some (n + 1))), (5, .ms 1 0 1 0 (n + 1) (some (n + 1)))]
def lR (D : Nat → Nat → Int) (n r i : Nat) (l : Int) : List (Nat × AV) := (6, .int .i64 l) :: (24, cM (zca D (n + 1))) :: (25, .int .i64 ((n + 1 : Nat) : Int)) :: (26, .int .i64 (i : Nat)) :: (20, .int .i64 ((n + 1 : Nat) : Int)) :: (21, .int .i64 (r : Nat)) :: lM D n
def lS (D : Nat → Nat → Int) (n r i j : Nat) (l : Int) : List (Nat × AV) := (7, .int .i64 (i : Nat)) :: (31, vsI (ze0 D (n + 1) i)) :: (32, .int .i64 ((n + 1 : Nat) : Int)) :: (33, .int .i64 (j : Nat)) :: lR D n r i l
set_option maxHeartbeats 4000000 in
set_option maxRecDepth 20000 in
theorem scan51 {w0 : World} {N0 : Nat} {k : List Fr} {Q : Exit → AS → Prop} {n r c : Nat} {D : Nat → Nat → Int} (hn : n ≤ 12) (hD : OkL D (n + 1)) {s : BF} (hs : BfB (n + 1) c s) (hc : c ≤ 3000) {S : AS} (hS : Subm w0 N0 none S (st 100 (lR D n r 0 s.last) (hB (n + 1) s) 2 1))
  (fin : Um Try.prog w0 N0 none (.exit 2) (st 100 ((27, .bool false) :: lR D n r (n + 1) (bfI D (n + 1) (n + 1) s).last) (hB (n + 1) (bfI D (n + 1) (n + 1) s)) 2 1) k Q) : Zm Try.prog w0 N0 none b51_2.loop S k Q := by
 refine zb8 (fun mm S => ∃ i, mm = n + 1 - i ∧ i ≤ n + 1 ∧ S = st 100 (lR D n r i (bfI D (n + 1) i s).last) (hB (n + 1) (bfI D (n + 1) i s)) 2 1) (n + 1) hS ⟨0, rfl, y0s _, rfl⟩ ?_
 rintro mm S ⟨i, rfl, hi, rfl⟩
 unfold b51_2 lR lM cM
 refine zsr rfl ?_
 refine zam rfl rfl rfl (fun h1 => ?_) fun h1 => ?_
 ·have hlt : i < n + 1 := by have := of_decide_eq_true h1; omega
  have hge := zgw (D := D) hlt
  have hrl := zff D (n + 1) i
  have hb := bfI_b hD (by omega) hs i hi
  have hst : bfI D (n + 1) (i + 1) s = bfJ D i (n + 1) (bfI D (n + 1) i s) := rfl
  have hcc : c + i * 13 ≤ 3200 := by omega
  generalize bfI D (n + 1) i s = u at *
  generalize c + i * 13 = d at *
  repeat (first | refine za7 ?_ | refine za0 rfl ?_ | refine za8 ?_ | refine za5 ?_ | refine zac ?_ | refine zae ?_ | refine zbz rfl ?_ | refine za1 rfl ?_ | refine zag rfl rfl ?_ | refine zbl rfl rfl ?_ | refine zb1 rfl rfl (by omega) (by assumption) rfl ?_)
  rw [hrl]
  refine zb8 (fun mm S => ∃ j, mm = n + 1 - j ∧ j ≤ n + 1 ∧ S = st 100 (lS D n r i j (bfJ D i j u).last) (hB (n + 1) (bfJ D i j u)) 2 1) (n + 1)
   (za9 (.cons rfl (.cons rfl (.cons rfl (.cons rfl (.cons rfl (.cons rfl (.cons rfl (.cons rfl (.cons rfl (.cons rfl (.cons rfl (.cons rfl (.cons rfl (.cons rfl .nil))))))))))))))) ⟨0, rfl, y0s _, rfl⟩ ?_
  rintro mm S ⟨j, rfl, hj, rfl⟩
  unfold b51_4 lS lR lM cM
  refine zsr rfl ?_
  refine zam rfl rfl rfl (fun h2 => ?_) fun h2 => ?_
  ·have hlt2 : j < n + 1 := by have := of_decide_eq_true h2; omega
   have hgj := zlg (D := D) (i := i) hlt2
   have hrg := hD i j hlt hlt2
   have hv := bfJ_b hD hlt hb j hj
   have hsj : bfJ D i (j + 1) u = bfS D i j (bfJ D i j u) := rfl
   generalize bfJ D i j u = v at *
   have vl := hv.lo i
   have vh := hv.hi i
   have gi := zm2 v.F hlt
   have gj := zm2 v.F hlt2
   have ez : ∀ o : Nat, 0 + ((o : Nat) : Int).toNat * 1 = o := fun o => by simp
   unfold bfS at hsj
   generalize D i j = x at *
   refine onu (za7 (zbz rfl (zae (za5 (za7 (zac (zsr rfl (za1 rfl (zb1 rfl rfl (by omega) (by assumption) rfl (zag rfl rfl (za1 rfl ?_)))))))))))
   refine za1 rfl (onu (za7 (zdl env0_ok rfl rfl rfl (za1 rfl ?_))))
   refine zam rfl rfl rfl (fun h3 => ?_) fun h3 => ?_
   ·have hx : x ≠ nnB := by unfold nnB; simpa using h3
    have hx1 := hrg.resolve_left hx
    repeat (first | refine ze4 rfl ?_ | refine za1 rfl ?_ | refine zax rfl rfl (by omega) (by omega) ?_)
    rw [ez]
    refine zap (id := 0) (sp := 0) (off := i) rfl rfl (by show 0 < 2; decide) gi ?_
    repeat (first | refine ze4 rfl ?_ | refine za1 rfl ?_ | refine zav (op := .add) rfl rfl rfl ?_ | refine zax rfl rfl (by omega) (by omega) ?_)
    rw [zd8 _ (by omega) (by omega)]
    rw [ez]
    refine zap (id := 0) (sp := 0) (off := j) rfl rfl (by show 0 < 2; decide) gj ?_
    refine ze4 rfl ?_
    refine zam rfl rfl rfl (fun h4 => ?_) fun h4 => ?_
    ·rw [if_pos ⟨hx, of_decide_eq_true h4⟩] at hsj
     refine zb9 rfl rfl (onu (zbz rfl (za0 rfl (za1 rfl (za1 rfl (za1 rfl (za1 rfl (za1 rfl (za1 rfl (zax rfl rfl (by omega) (by omega) ?_))))))))))
     rw [ez]
     refine zap (id := 0) (sp := 0) (off := i) rfl rfl (by show 0 < 2; decide) gi ?_
     refine za1 rfl (zav (op := .add) rfl rfl rfl (za1 rfl (za1 rfl (zax rfl rfl (by omega) (by omega) ?_))))
     rw [zd8 _ (by omega) (by omega)]
     rw [ez]
     refine zbj (id := 0) (sp := 0) (off := j) (cs := cI (n + 1) v.F) rfl rfl rfl rfl (by rw [zp5]; exact hlt2) rfl ?_
     rw [zp6]
     refine zax rfl rfl (by omega) (by omega) ?_
     rw [ez]
     refine zbj (id := 1) (sp := 0) (off := j) (cs := cP (n + 1) v.P) rfl rfl rfl rfl (by show j < (cI _ _).length; rw [zp5]; exact hlt2) rfl ?_
     rw [cP_set]
     refine za1 rfl (za8 (zbd (za5 (za0 rfl (zav (op := .add) rfl rfl rfl (za1 rfl (za8 ?_)))))))
     rw [zab j (by omega)]
     exact zal (show n + 1 - (j + 1) < n + 1 - j by omega) (za9 (.cons rfl (.cons rfl (.cons rfl (.cons rfl (.cons rfl (.cons rfl (.cons rfl (.cons rfl (.cons rfl (.cons rfl (.cons rfl (.cons rfl (.cons rfl (.cons rfl .nil))))))))))))))) ⟨j + 1, rfl, hlt2, by rw [hsj]; rfl⟩
    ·rw [if_neg (fun e => of_decide_eq_false h4 e.2)] at hsj
     refine zb9 rfl rfl (onu (zbn rfl (zae (zbd (za5 (za0 rfl (zav (op := .add) rfl rfl rfl (za1 rfl (za8 ?_)))))))))
     rw [zab j (by omega)]
     exact zal (show n + 1 - (j + 1) < n + 1 - j by omega) (za9 (.cons rfl (.cons rfl (.cons rfl (.cons rfl (.cons rfl (.cons rfl (.cons rfl (.cons rfl (.cons rfl (.cons rfl (.cons rfl (.cons rfl (.cons rfl (.cons rfl .nil))))))))))))))) ⟨j + 1, rfl, hlt2, by rw [hsj]⟩
   ·have hx : x = nnB := by unfold nnB; simpa using h3
    rw [if_neg (fun e => e.1 hx)] at hsj
    repeat (first | refine za0 rfl ?_ | refine za8 ?_ | refine za5 ?_ | refine zbd ?_ | refine zae ?_ | refine zbn rfl ?_ | refine zgo rfl rfl ?_ | refine za1 rfl ?_ | refine zb4 rfl rfl ?_ | refine zav (op := .add) rfl rfl rfl ?_)
    rw [zab j (by omega)]
    exact zal (show n + 1 - (j + 1) < n + 1 - j by omega) (za9 (.cons rfl (.cons rfl (.cons rfl (.cons rfl (.cons rfl (.cons rfl (.cons rfl (.cons rfl (.cons rfl (.cons rfl (.cons rfl (.cons rfl (.cons rfl (.cons rfl .nil))))))))))))))) ⟨j + 1, rfl, hlt2, by rw [hsj]⟩
  ·obtain rfl : j = n + 1 := by have := of_decide_eq_false h2; omega
   refine onu (za7 (zbn rfl (zbb (zad ?_))))
   refine zby ?_
   refine zb7 (zbd (za5 (za0 rfl (zav (op := .add) rfl rfl rfl (za1 rfl (za8 ?_))))))
   rw [zab i (by omega)]
   exact zal (show n + 1 - (i + 1) < n + 1 - i by omega) (za9 (.cons rfl (.cons rfl (.cons rfl (.cons rfl (.cons rfl (.cons rfl (.cons rfl (.cons rfl (.cons rfl (.cons rfl .nil))))))))))) ⟨i + 1, rfl, hlt, by rw [hst]⟩
 ·obtain rfl : i = n + 1 := by have := of_decide_eq_false h1; omega
  refine onu (za7 (zbn rfl (zbb (zad ?_))))
  exact zby fin
theorem zer_cI (K : Nat) : zed K [AV.int .i64 0] = cI K fun _ => 0 := by
 rw [zer_repl]
 unfold zerL cI
 rw [List.map_replicate, List.map_const', y0m]
theorem zw3 {w0 : World} {N0 : Nat} {k : List Fr} {Q : Exit → AS → Prop} {n : Nat} {D : Nat → Nat → Int} (hn : n ≤ 12) {y : IC} (go : Zm Try.prog w0 N0 none y (st 100 (lM D n) (hB (n + 1) (bfR D (n + 1) 0)) 2 1) k Q) {l : List (Nat × AV)} (h1 : zcs 1 l = some (.mptr 0 0 0)) (h3 : zcs 3 l = some (.int .i64 ((n + 1 : Nat) : Int))) :
  Zm Try.prog w0 N0 none (.region [oT 16 3, oM 17 (.mkslice 1 8 [.int .i64 0] (.t 16) (.t 16)), oT 18 3, oM 19 (.mkslice 1 8 [.int .i64 0] (.t 18) (.t 18)), oT 4 17, oT 5 19] (some [[], [0, 0], [], [2, 2], [1, 0, 1], [3, 4, 0, 1, 2, 3, 4]]))
   (st 100 l [(0, 0, .cells [.int .i64 (n : Nat), cM (zca D (n + 1))])] 1 1) (.seq y :: k) Q := by
 have hrp := zer_cI (n + 1)
 refine z_any2 env0_ok.mix (S1 := st 100 (lM D n) (hB (n + 1) (bfR D (n + 1) 0)) 2 1) (fun rd K hK => ?_) go
 repeat' first
   | exact trivial
   | refine AnyF.succ (by decide) ?_
   | refine AllL.cons' ?_ ?_
   | refine zjc (i := 0) rfl rfl (zu1 h3) ?_
   | refine zjc (i := 1) rfl rfl (g_mks rfl rfl ⟨by omega, by omega, by omega, by omega⟩) ?_
   | refine zjc (i := 2) rfl rfl (zu1 h3) ?_
   | refine zjc (i := 3) rfl rfl (g_mks rfl rfl ⟨by omega, by omega, by omega, by omega⟩) ?_
   | refine zjc (i := 4) rfl rfl (zu1 rfl) ?_
   | refine zjc (i := 5) rfl rfl (zu1 rfl) ?_
   | refine AnyF.fin (by decide) (hK _ ?_)
 all_goals
  rw [y0t, hrp]
  first
  | exact zeo [(some (1, 1), cI (n + 1) fun _ => 0), (some (2, 2), cI (n + 1) fun _ => 0)] [(0, 0, [.int .i64 (n : Nat), cM (zca D (n + 1))])] rfl rfl rfl (.cons rfl rfl .nil) (.cons rfl (.keep (zin _ _)) (.cons rfl (.keep (zin _ _)) .nil)) (.cons h1 (.fptr rfl rfl) (.cons h3 (.same rfl) (.cons rfl (.ms rfl) (.cons rfl (.ms rfl) .nil))))
  | exact zeo [(some (2, 2), cI (n + 1) fun _ => 0), (some (1, 1), cI (n + 1) fun _ => 0)] [(0, 0, [.int .i64 (n : Nat), cM (zca D (n + 1))])] rfl rfl rfl (.cons rfl rfl .nil) (.cons rfl (.keep (zin _ _)) (.cons rfl (.keep (zin _ _)) .nil)) (.cons h1 (.fptr rfl rfl) (.cons h3 (.same rfl) (.cons rfl (.ms rfl) (.cons rfl (.ms rfl) .nil))))
def outL (P : Nat → Nat) (y a : Nat) : List Int := (List.range a).map fun i => ((bk P i y : Nat) : Int)
theorem zvb (P : Nat → Nat) (y a : Nat) : outL P y a ++ [((bk P a y : Nat) : Int)] = outL P y (a + 1) := by
 unfold outL
 rw [y2x, y1u]
 rfl
theorem zlb (P : Nat → Nat) (y a : Nat) : (outL P y a).length = a := by
 unfold outL
 rw [y04, y0m]
theorem outL_cI (P : Nat → Nat) (y a : Nat) : (outL P y a).map (AV.int .i64) = cI a fun i => ((bk P i y : Nat) : Int) := by
 unfold outL cI
 rw [y1v]
 rfl
theorem least_of {R : Nat → Prop} : ∀ t0 : Nat, R t0 → ∃ t, R t ∧ t ≤ t0 ∧ ∀ j, j < t → ¬ R j := fun t0 => by
 induction t0 using Nat.strongRecOn with
 | ind t0 ih =>
  intro h
  by_cases c : ∃ j, j < t0 ∧ R j
  ·obtain ⟨j, hj, hr⟩ := c
   obtain ⟨t, a, b, d⟩ := ih j hj hr
   exact ⟨t, a, by omega, d⟩
  ·exact ⟨t0, h, y0c _, fun j hj hr => c ⟨j, hj, hr⟩⟩
def vP (K : Nat) (P : Nat → Nat) : List (List AV) := (List.range K).map fun j => [.int .i64 (P j : Nat)]
theorem vP_get {K j : Nat} (P : Nat → Nat) (h : j < K) : (vP K P)[((j : Nat) : Int).toNat]? = some [.int .i64 (P j : Nat)] := by
 unfold vP
 rw [y0t, y0d, y1c h]
 rfl
theorem vP_flat (K : Nat) (P : Nat → Nat) : cP K P = (vP K P).flatten := by
 unfold cP cI vP
 induction List.range K with
 | nil => rfl
 | cons y l ih =>
  rw [y16, y16, y1t, ← ih]
  rfl
theorem vP_len (K : Nat) (P : Nat → Nat) : (vP K P).length = K := by
 unfold vP
 rw [y04, y0m]
def lZ (D : Nat → Nat → Int) (n r : Nat) (l : Int) : List (Nat × AV) := (6, .int .i64 l) :: (20, .int .i64 ((n + 1 : Nat) : Int)) :: (21, .int .i64 (r : Nat)) :: lM D n
set_option maxHeartbeats 4000000 in
set_option maxRecDepth 20000 in
theorem negN51 {D : Nat → Nat → Int} {n : Nat} (hn : n ≤ 12) (hD : OkL D (n + 1)) (hnil : (bfR D (n + 1) (n + 1)).last = -1) : PF Try.prog 51 [cB (n : Nat) (zca D (n + 1))] .nil0 := by
 refine zaw env0_ok fn51 [(0, .agg [.int .i64 (n : Nat), cM (zca D (n + 1))])] (by show 1 ≤ 100; decide) rfl fun w0 N0 => ?_
 unfold ic51
 refine zsr rfl (zd6 rfl rfl (za1 rfl (onr rfl (zai rfl (zag rfl rfl (zav (op := .add) rfl rfl rfl (za1 rfl (onu ?_))))))))
 refine za7 ?_
 rw [zab n (by omega)]
 refine zw3 hn ?_ rfl rfl
 unfold lM
 repeat (first | refine za7 ?_ | refine za0 rfl ?_ | refine za8 ?_ | refine za5 ?_ | refine zac ?_ | refine za1 rfl ?_)
 refine zb8 (fun mm S => ∃ r, mm = n + 1 - r ∧ r ≤ n ∧ S = st 100 (lZ D n r (bfR D (n + 1) r).last) (hB (n + 1) (bfR D (n + 1) r)) 2 1) (n + 1)
  (za9 (.cons rfl (.cons rfl (.cons rfl (.cons rfl (.cons rfl (.cons rfl (.cons rfl .nil)))))))) ⟨0, rfl, y0s _, rfl⟩ ?_
 rintro mm S ⟨r, rfl, hr, rfl⟩
 have hb := zqz hD (by omega) (by omega) r
 have hst : bfR D (n + 1) (r + 1) = bfI D (n + 1) (n + 1) (bfZ (bfR D (n + 1) r)) := rfl
 have hb2 := zqz hD (by omega) (by omega) (r + 1)
 have hlast : r = n → (bfR D (n + 1) (r + 1)).last = -1 := fun e => by rw [e]; exact hnil
 unfold b51_0 lZ lM cM
 refine zsr rfl ?_
 refine zam rfl rfl rfl (fun h0 => ?_) fun h0 => absurd (of_decide_eq_false h0) (by omega)
 repeat (first | refine za7 ?_ | refine za0 rfl ?_ | refine za8 ?_ | refine za5 ?_ | refine zac ?_ | refine zae ?_ | refine zbz rfl ?_ | refine za1 rfl ?_ | refine zag rfl rfl ?_ | refine zaz rfl rfl rfl ?_ | refine zbl rfl rfl ?_)
 rw [zge D (n + 1)]
 refine scan51 (n := n) (r := r) (s := bfZ (bfR D (n + 1) r)) (c := r * 169) hn hD ⟨hb.lo, hb.hi, hb.p, .inl rfl⟩ (by omega) (za9 (.cons rfl (.cons rfl (.cons rfl (.cons rfl (.cons rfl (.cons rfl (.cons rfl (.cons rfl (.cons rfl (.cons rfl .nil))))))))))) ?_
 rw [← hst]
 generalize hg : bfR D (n + 1) (r + 1) = s at *
 unfold lR lM cM
 refine zb7 (za5 ?_)
 refine za7 ?_
 rcases hb2.l with e | ⟨e1, e2⟩
 ·rw [e]
  refine za0 rfl (za1 rfl (zav (op := .lss) rfl rfl rfl (onu (zbz rfl (zsr rfl (o_movn noEsc (za8 ?_)))))))
  refine za5 (zau (zbf (zak ?_)))
  refine zn8 ?_
  refine zbf (zak ?_)
  exact zao ⟨.inr rfl, _, rfl, rfl⟩
 ·have hrn : r ≠ n := fun e => by
   have := hlast e
   omega
  refine za0 rfl ?_
  refine za1 rfl ?_
  refine zam rfl rfl rfl (fun h => absurd (of_decide_eq_true h) (by omega)) fun _ => ?_
  refine onu (zbn rfl (zae (zbd (za5 (za0 rfl (zav (op := .add) rfl rfl rfl (za1 rfl (za8 ?_))))))))
  rw [zab r (by omega)]
  exact zal (show n + 1 - (r + 1) < n + 1 - r by omega) (za9 (.cons rfl (.cons rfl (.cons rfl (.cons rfl (.cons rfl (.cons rfl (.cons rfl .nil)))))))) ⟨r + 1, rfl, by omega, by rw [hg]⟩
set_option maxHeartbeats 4000000 in
set_option maxRecDepth 20000 in
theorem negC51 {D : Nat → Nat → Int} {n L : Nat} {g : Nat → Nat} (hn : n ≤ 12) (hD : OkL D (n + 1)) (hg : NegC D (n + 1) L g) : ∃ q : List Int, q ≠ [] ∧ PF Try.prog 51 [cB (n : Nat) (zca D (n + 1))] (vsI q) := by
 have hbK := zqz hD (by omega) (by omega) (n + 1)
 have hlK := zsn hg n
 obtain ⟨x, hx, hxl⟩ : ∃ x : Nat, x < n + 1 ∧ (bfR D (n + 1) (n + 1)).last = (x : Nat) := ⟨(bfR D (n + 1) (n + 1)).last.toNat, by rcases hbK.l with e | e <;> omega, by rcases hbK.l with e | e <;> omega⟩
 obtain ⟨t0, h1, h2, h3⟩ := bk_back hbK.p hx
 obtain ⟨t, ⟨t1, ht⟩, t2, t3⟩ := least_of (R := fun t => 1 ≤ t ∧ bk (bfR D (n + 1) (n + 1)).P t (bk (bfR D (n + 1) (n + 1)).P (n + 1) x) = bk (bfR D (n + 1) (n + 1)).P (n + 1) x) t0 ⟨h1, h3⟩
 clear h1 h3
 have hyl : bk (bfR D (n + 1) (n + 1)).P (n + 1) x < n + 1 := bk_lt hbK.p hx _
 refine ⟨(List.range t).map fun i => ((bk (bfR D (n + 1) (n + 1)).P (t - 1 - i) (bk (bfR D (n + 1) (n + 1)).P (n + 1) x) : Nat) : Int), fun e => ?_, ?_⟩
 ·have := congrArg List.length e
  rw [y04, y0m] at this
  simp at this
  omega
 refine zaw env0_ok fn51 [(0, .agg [.int .i64 (n : Nat), cM (zca D (n + 1))])] (by show 1 ≤ 100; decide) rfl fun w0 N0 => ?_
 unfold ic51
 refine zsr rfl (zd6 rfl rfl (za1 rfl (onr rfl (zai rfl (zag rfl rfl (zav (op := .add) rfl rfl rfl (za1 rfl (onu ?_))))))))
 refine za7 ?_
 rw [zab n (by omega)]
 refine zw3 hn ?_ rfl rfl
 unfold lM
 repeat (first | refine za7 ?_ | refine za0 rfl ?_ | refine za8 ?_ | refine za5 ?_ | refine zac ?_ | refine za1 rfl ?_)
 refine zb8 (fun mm S => ∃ r, mm = n + 1 - r ∧ r ≤ n + 1 ∧ S = st 100 (lZ D n r (bfR D (n + 1) r).last) (hB (n + 1) (bfR D (n + 1) r)) 2 1) (n + 1)
  (za9 (.cons rfl (.cons rfl (.cons rfl (.cons rfl (.cons rfl (.cons rfl (.cons rfl .nil)))))))) ⟨0, rfl, y0s _, rfl⟩ ?_
 rintro mm S ⟨r, rfl, hr, rfl⟩
 have hb := zqz hD (by omega) (by omega) r
 have hst : bfR D (n + 1) (r + 1) = bfI D (n + 1) (n + 1) (bfZ (bfR D (n + 1) r)) := rfl
 have hb2 := zqz hD (by omega) (by omega) (r + 1)
 have hlast := zsn hg r
 unfold b51_0 lZ lM cM
 refine zsr rfl ?_
 refine zam rfl rfl rfl (fun h0 => ?_) fun h0 => ?_
 ·have hlt : r < n + 1 := y0x.1 (of_decide_eq_true h0)
  repeat (first | refine za7 ?_ | refine za0 rfl ?_ | refine za8 ?_ | refine za5 ?_ | refine zac ?_ | refine zae ?_ | refine zbz rfl ?_ | refine za1 rfl ?_ | refine zag rfl rfl ?_ | refine zaz rfl rfl rfl ?_ | refine zbl rfl rfl ?_)
  rw [zge D (n + 1)]
  refine scan51 (n := n) (r := r) (s := bfZ (bfR D (n + 1) r)) (c := r * 169) hn hD ⟨hb.lo, hb.hi, hb.p, .inl rfl⟩ (by omega) (za9 (.cons rfl (.cons rfl (.cons rfl (.cons rfl (.cons rfl (.cons rfl (.cons rfl (.cons rfl (.cons rfl (.cons rfl .nil))))))))))) ?_
  rw [← hst]
  generalize hgs : bfR D (n + 1) (r + 1) = s at *
  have e1 : 0 ≤ s.last := by rcases hb2.l with e | e; exact absurd e hlast; exact e.1
  unfold lR lM cM
  refine zb7 (za5 ?_)
  refine za7 ?_
  refine za0 rfl ?_
  refine za1 rfl ?_
  refine zam rfl rfl rfl (fun h => absurd (of_decide_eq_true h) (by omega)) fun _ => ?_
  refine onu (zbn rfl (zae (zbd (za5 (za0 rfl (zav (op := .add) rfl rfl rfl (za1 rfl (za8 ?_))))))))
  rw [zab r (by omega)]
  exact zal (show n + 1 - (r + 1) < n + 1 - r by omega) (za9 (.cons rfl (.cons rfl (.cons rfl (.cons rfl (.cons rfl (.cons rfl (.cons rfl .nil)))))))) ⟨r + 1, rfl, by omega, by rw [hgs]⟩
 obtain rfl : r = n + 1 := by have := of_decide_eq_false h0; omega
 clear hst hlast hb hb2
 rw [hxl]
 generalize bfR D (n + 1) (n + 1) = s at *
 refine onu (za7 (zbn rfl (zbb (zad ?_))))
 refine zby ?_
 refine zb7 (za5 (za7 (zsr rfl (za1 rfl (za1 rfl (onu (zac ?_)))))))
 have gP := fun j (h : j < n + 1) => zm2 (fun j => ((s.P j : Nat) : Int)) h
 have ez : ∀ o : Nat, 0 + ((o : Nat) : Int).toNat * 1 = o := fun o => by simp
 refine zb8 (fun mm S => ∃ i, mm = n + 1 - i ∧ i ≤ n + 1 ∧ S = st 100 [(5, .ms 1 0 1 0 (n + 1) (some (n + 1))), (6, .int .i64 (bk s.P i x : Nat)), (72, .int .i64 ((n + 1 : Nat) : Int)), (73, .int .i64 (i : Nat))] (hB (n + 1) s) 2 1) (n + 1)
  (za9 (.cons rfl (.cons rfl (.cons rfl (.cons rfl .nil))))) ⟨0, rfl, y0s _, rfl⟩ ?_
 rintro mm S ⟨i, rfl, hi, rfl⟩
 unfold b51_6
 refine zsr rfl ?_
 refine zam rfl rfl rfl (fun h4 => ?_) fun h4 => ?_
 ·have hlt : i < n + 1 := by have := of_decide_eq_true h4; omega
  have hbl := bk_lt hbK.p hx i
  refine onu (za7 (zbz rfl (zae (za5 (za7 (zac (za0 rfl (za1 rfl (za1 rfl (zax rfl rfl (by omega) (by omega) ?_))))))))))
  rw [ez]
  refine zap (id := 1) (sp := 0) (off := bk s.P i x) rfl rfl (by show 1 < 2; decide) (gP _ hbl) ?_
  refine za1 rfl (za8 (zbd (za5 (za0 rfl (zav (op := .add) rfl rfl rfl (za1 rfl (za8 ?_)))))))
  rw [zab i (by omega)]
  exact zal (show n + 1 - (i + 1) < n + 1 - i by omega) (za9 (.cons rfl (.cons rfl (.cons rfl (.cons rfl .nil))))) ⟨i + 1, rfl, hlt, rfl⟩
 obtain rfl : i = n + 1 := by have := of_decide_eq_false h4; omega
 generalize bk s.P (n + 1) x = y at *
 refine onu (za7 (zbn rfl (zbb (zad ?_))))
 refine zby ?_
 refine zb7 (za5 ?_)
 refine za7 ?_
 refine zcc [] [(1, 0, cP (n + 1) s.P)] [(5, .vs (vP (n + 1) s.P)), (6, .int .i64 (y : Nat))] rfl (.cons rfl (zin _ _) .nil) .nil (.cons rfl (.fms0 rfl (vP_len _ _) (fun z hz => by obtain ⟨j, _, rfl⟩ := y0i.1 hz; rfl) (vP_flat _ _)) (.cons rfl (.same rfl) .nil)) ?_
 have gV := fun j (h : j < n + 1) => vP_get s.P h
 have gy := gV y hyl
 repeat (first | refine za7 ?_ | refine za0 rfl ?_ | refine za8 ?_ | refine za5 ?_ | refine zac ?_ | refine za1 rfl ?_ | refine zag rfl rfl ?_ | refine zbi rfl rfl ?_ | refine zb1 rfl rfl (by omega) (by assumption) rfl ?_)
 refine zb8 (fun mm S => ∃ a qv hp nx ck, mm = t - a ∧ 1 ≤ a ∧ a ≤ t ∧ Wq hp nx (outL s.P y a) qv ∧ S = st 100 [(5, .vs (vP (n + 1) s.P)), (6, .int .i64 (y : Nat)), (11, qv), (12, .int .i64 (bk s.P a y : Nat))] hp nx ck) (t - 1)
  (za9 (.cons rfl (.cons rfl (.cons rfl (.cons rfl .nil))))) ⟨1, _, _, _, _, rfl, y0c _, t1, .lit (y : Nat) rfl rfl (by show 0 < 1; decide), rfl⟩ ?_
 rintro mm S ⟨a, qv, hp, nx, ck, rfl, a1, ha, hW, rfl⟩
 unfold b51_8
 refine za7 (zsr rfl (za1 rfl (za1 rfl ?_)))
 refine zam rfl rfl rfl (fun h5 => ?_) fun h5 => ?_
 ·have hne : bk s.P a y ≠ y := fun e => by
   have h5 : (((bk s.P a y : Nat) : Int) != ((y : Nat) : Int)) = true := h5
   rw [e, bne_self_eq_false] at h5
   cases h5
  have hlt : a < t := by
   rcases Nat.lt_or_eq_of_le ha with h | h
   ·exact h
   ·exact absurd (by rw [h]; exact ht) hne
  have hbl := bk_lt hbK.p hyl a
  have gb := gV _ hbl
  have hol := zlb s.P y a
  refine onu (zbz rfl (zae (za5 (za7 (zac (za0 rfl (za1 rfl (za1 rfl (zbi rfl rfl ?_)))))))))
  refine o_wapp (hW.fresh ck (.cells [.int .i64 (bk s.P a y : Nat)])) (by rw [hol]; omega) rfl rfl zah (by decide) fun id sp hp2 nx2 ck2 hl2 hn2 => ?_
  rw [zvb] at hl2
  rw [hol]
  refine za1 rfl (za8 (zbd (za5 (za0 rfl (za1 rfl (za1 rfl (zb1 rfl rfl (by omega) (by assumption) rfl (zag rfl rfl (za1 rfl (za8 ?_))))))))))
  exact zal (show t - (a + 1) < t - a by omega) (za9 (.cons rfl (.cons rfl (.cons rfl (.cons rfl .nil))))) ⟨a + 1, _, _, _, _, rfl, by omega, hlt, .gen (zlb s.P y (a + 1)).symm hl2 hn2, rfl⟩
 have heq : bk s.P a y = y := by
  have h5 : (((bk s.P a y : Nat) : Int) != ((y : Nat) : Int)) = false := h5
  simp only [bne_eq_false_iff_eq] at h5
  omega
 obtain rfl : a = t := by
  rcases Nat.lt_or_eq_of_le ha with h | h
  ·exact absurd ⟨a1, heq⟩ (t3 a h)
  ·exact h
 refine onu (zbn rfl (zbb (zad ?_)))
 refine zby ?_
 refine zb7 (za5 (zsr rfl (za1 rfl ?_)))
 obtain ⟨id, sp, cap, rfl, hl, hn2⟩ : ∃ id sp cap, qv = .ms id sp 1 0 a cap ∧ Am.look id hp = some (sp, .cells (cI a fun i => ((bk s.P i y : Nat) : Int))) ∧ id < nx := by
  have hol := zlb s.P y a
  have hoc := outL_cI s.P y a
  cases hW with
  | lit z hq hl hn3 =>
   rw [hq] at hol hoc
   obtain rfl : 1 = a := hol
   rw [← hoc]
   exact ⟨_, _, _, rfl, hl, hn3⟩
  | gen hlen hl hn3 =>
   rw [hol] at hlen
   subst hlen
   rw [← hoc]
   exact ⟨_, _, _, rfl, hl, hn3⟩
 refine zry _ rfl rfl (zi8 (zvp a1 (by omega) ⟨_, _, _⟩ hl hn2)) (fun _ _ _ _ hm => absurd hm y0h) fun v H2 hF => ?_
 obtain ⟨_, hF⟩ := hF
 refine onr rfl (za1 rfl (za1 rfl (onu (zau ?_))))
 refine zao ⟨.inr rfl, _, rfl, ?_⟩
 refine zce (d := 3) _ (by rw [y04, y0m]) ?_
 rw [y1v]
 exact hF
theorem zuu (d : Nat) (v : AV) (l : List (Nat × AV)) : zcs d ((d, v) :: l) = some v := by
 rw [zcs, y2a]
theorem zjp {d t : Nat} (h : d ≠ t) (v : AV) (l : List (Nat × AV)) : zcs t ((d, v) :: l) = zcs t l := by
 rw [zcs]
 cases hb : Nat.beq d t with
 | true => exact absurd (y0o hb) h
 | false => rfl
def Lk (base : List (Nat × AV)) (dv : Nat → Option (Nat × AV)) (D : List Nat) (l : List (Nat × AV)) : Prop :=
 (∀ t v, (t, v) ∈ base → zcs t l = some v) ∧ ∀ j d v, dv j = some (d, v) → j ∈ D → zcs d l = some v
theorem Lk.add {base : List (Nat × AV)} {dv dv' : Nat → Option (Nat × AV)} {D : List Nat} {l : List (Nat × AV)} {i d : Nat} {v : AV} (h : Lk base dv D l) (hi : dv' i = some (d, v)) (hb : ∀ t v, (t, v) ∈ base → d ≠ t) (hs : ∀ j, j ∈ D → j ≠ i → dv' j = dv j) (hd : ∀ j e w, j ≠ i → dv' j = some (e, w) → d ≠ e) (hni : i ∉ D) :
  Lk base dv' (i :: D) ((d, v) :: l) := by
 refine ⟨fun t w ht => by rw [zjp (hb t w ht)]; exact h.1 t w ht, fun j e w hj hm => ?_⟩
 by_cases hji : j = i
 ·subst hji
  rw [hi] at hj
  injection hj with hj
  injection hj with h1 h2
  subst h1 h2
  exact zuu ..
 ·rw [zjp (hd j e w hji hj)]
  have hm2 : j ∈ D := (y0n.1 hm).resolve_left hji
  exact h.2 j e w (by rw [← hs j hm2 hji]; exact hj) hm2
structure N56 where
 i9 : Nat
 s9 : Nat
 iA : Nat
 sA : Nat
structure M56 (K : Nat) (D : List Nat) (hp : List (Nat × Nat × AObj)) (nx : Nat) (q : N56) : Prop where
 h0 : Am.look 0 hp = some (0, .cells [.int .i64 0, .nils])
 l0 : 0 < nx
 h9 : 9 ∈ D → Am.look q.i9 hp = some (q.s9, .cells (zed K [.nils]))
 l9 : 9 ∈ D → 0 < q.i9 ∧ q.i9 < nx
 hA : 11 ∈ D → Am.look q.iA hp = some (q.sA, .cells (if D.contains 12 then [.int .i64 ((K : Nat) - 1), .ms q.i9 q.s9 1 0 K (some K)] else [.int .i64 0, .nils]))
 lA : 11 ∈ D → 0 < q.iA ∧ q.iA < nx
 ne : 9 ∈ D → 11 ∈ D → q.i9 ≠ q.iA
 c12 : 12 ∈ D → 11 ∈ D ∧ 9 ∈ D
 c10 : 10 ∈ D → 9 ∈ D
theorem M56.keep {K : Nat} {D : List Nat} {hp : List (Nat × Nat × AObj)} {nx j : Nat} {q : N56} (h : M56 K D hp nx q) (n9 : j ≠ 9) (nA : j ≠ 11) (n12 : j ≠ 12) (n10 : j = 10 → 9 ∈ D) : M56 K (j :: D) hp nx q := by
 have e : ∀ k, j ≠ k → k ∈ j :: D → k ∈ D := fun k hk hm => (y0n.1 hm).resolve_left fun e => hk e.symm
 have c : ∀ k, j ≠ k → (j :: D).contains k = D.contains k := fun k hk => by rw [List.contains_cons, show (k == j) = false from beq_eq_false_iff_ne.2 fun e => hk e.symm, Bool.false_or]
 exact ⟨h.h0, h.l0, fun a => h.h9 (e 9 n9 a), fun a => h.l9 (e 9 n9 a), fun a => by rw [c 12 n12]; exact h.hA (e 11 nA a), fun a => h.lA (e 11 nA a), fun a b => h.ne (e 9 n9 a) (e 11 nA b), fun a => ⟨y06 _ (h.c12 (e 12 n12 a)).1, y06 _ (h.c12 (e 12 n12 a)).2⟩, fun a => y06 _ ((y0n.1 a).elim (fun x => n10 x.symm) fun x => h.c10 x)⟩
structure Jm (m : Nat) (nz : Nat → Bool) (cv : Nat → AV) (C : Nat → List Int) (ids sps : Nat → Nat) (hp : List (Nat × Nat × AObj)) (nx : Nat) : Prop where
 top : Am.look 0 hp = some (0, .cells ((List.range m).map cv))
 cell : ∀ v, v < m → nz v = true → Am.look (ids v) hp = some (sps v, .cells ((C v).map (AV.int .i64)))
 pos : ∀ v, v < m → nz v = true → 2 < ids v ∧ ids v < nx
 inj : ∀ u v, u < m → v < m → nz u = true → nz v = true → ids u = ids v → u = v
 nx0 : 2 < nx
section
variable {m : Nat} {nz : Nat → Bool} {cv : Nat → AV} {C : Nat → List Int} {ids sps : Nat → Nat} {hp : List (Nat × Nat × AObj)} {nx : Nat}
theorem Jm.fresh (h : Jm m nz cv C ids sps hp nx) (ck : Nat) (o : AObj) : Jm m nz cv C ids sps ((nx, ck, o) :: hp) (nx + 1) :=
 ⟨by rw [za3, if_neg (by have := h.nx0; omega)]; exact h.top, fun v hv hz => by rw [za3, if_neg (by have := h.pos v hv hz; omega)]; exact h.cell v hv hz,
  fun v hv hz => by have := h.pos v hv hz; omega, h.inj, by have := h.nx0; omega⟩
theorem Jm.junk (h : Jm m nz cv C ids sps hp nx) {j : Nat} (h0 : j ≠ 0) (hj : ∀ v, v < m → nz v = true → ids v ≠ j) (x : Nat × AObj) : Jm m nz cv C ids sps (zbu j x hp) nx :=
 ⟨by rw [za4, if_neg h0]; exact h.top, fun v hv hz => by rw [za4, if_neg fun e => hj v hv hz e.symm]; exact h.cell v hv hz, h.pos, h.inj, h.nx0⟩
theorem Jm.block (h : Jm m nz cv C ids sps hp nx) {a : Nat} (ha : a < m) (hz : nz a = true) (sp : Nat) (D : List Int) : Jm m nz cv (upd C a D) ids (upd sps a sp) (zbu (ids a) (sp, .cells (D.map (AV.int .i64))) hp) nx := by
 refine ⟨by rw [za4, if_neg (by have := h.pos a ha hz; omega)]; exact h.top, fun v hv hzv => ?_, h.pos, h.inj, h.nx0⟩
 rw [za4]
 by_cases e : v = a
 ·subst e
  rw [if_pos rfl, zaf, zaf]
 ·rw [if_neg fun e2 => e (h.inj v a hv ha hzv hz e2.symm), zaa _ _ e, zaa _ _ e]
  exact h.cell v hv hzv
theorem Jm.cset (h : Jm m nz cv C ids sps hp nx) (a : Nat) (x : AV) : Jm m nz (upd cv a x) C ids sps (zbu 0 (0, .cells (((List.range m).map cv).set a x)) hp) nx :=
 ⟨by rw [za4, if_pos rfl, map_set], fun v hv hz => by rw [za4, if_neg (by have := h.pos v hv hz; omega)]; exact h.cell v hv hz, h.pos, h.inj, h.nx0⟩
theorem Jm.add (h : Jm m nz cv C ids sps hp nx) (a ck : Nat) (D : List Int) : Jm m (upd nz a true) cv (upd C a D) (upd ids a nx) (upd sps a ck) ((nx, ck, .cells (D.map (AV.int .i64))) :: hp) (nx + 1) := by
 refine ⟨by rw [za3, if_neg (by have := h.nx0; omega)]; exact h.top, fun v hv hz => ?_, fun v hv hz => ?_, fun u v hu hv hzu hzv e => ?_, by have := h.nx0; omega⟩
 ·by_cases e : v = a
  ·subst e
   rw [zaf, zaf, zaf, za3, if_pos rfl]
  ·rw [zaa _ _ e] at hz
   rw [zaa _ _ e, zaa _ _ e, zaa _ _ e, za3, if_neg (by have := h.pos v hv hz; omega)]
   exact h.cell v hv hz
 ·by_cases e : v = a
  ·subst e
   rw [zaf]
   have := h.nx0
   omega
  ·rw [zaa _ _ e] at hz ⊢
   have := h.pos v hv hz
   omega
 ·by_cases e1 : u = a
  ·by_cases e2 : v = a
   ·rw [e1, e2]
   ·rw [zaa _ _ e2] at hzv
    subst e1
    rw [zaf, zaa _ _ e2] at e
    have := h.pos v hv hzv
    omega
  ·rw [zaa _ _ e1] at hzu
   by_cases e2 : v = a
   ·subst e2
    rw [zaf, zaa _ _ e1] at e
    have := h.pos u hu hzu
    omega
   ·rw [zaa _ _ e2] at hzv
    rw [zaa _ _ e1, zaa _ _ e2] at e
    exact h.inj u v hu hv hzu hzv e
theorem Jm.get (h : Jm m nz cv C ids sps hp nx) {a : Nat} (ha : a < m) : ((List.range m).map cv)[a]? = some (cv a) := by
 rw [y0d, y1c ha]
 rfl
theorem Jm.fzl (h : Jm m nz cv C ids sps hp nx) {v : Nat} (hv : v < m) (hz : nz v = true) : Am.fzl (ids v) (sps v) (fzJ m nz C ids sps) = some ((C v).map (AV.int .i64)) := by
 refine zpm (y0i.2 ⟨v, y13.2 ⟨y0j.2 hv, hz⟩, rfl⟩) fun x hx e => ?_
 obtain ⟨u, hu, rfl⟩ := y0i.1 hx
 obtain ⟨h1, h2⟩ := y13.1 hu
 rw [h.inj u v (y0j.1 h1) hv h2 hz e]
theorem Jm.rnF (h : Jm m nz cv C ids sps hp nx) : RnF hp (fzJ m nz C ids sps) := zq9 fun x hx => by
 obtain ⟨u, hu, rfl⟩ := y0i.1 hx
 obtain ⟨h1, h2⟩ := y13.1 hu
 exact ⟨h.cell u (y0j.1 h1) h2, zc4 _⟩
end
-- (*pneumatic/bounds.square).bounds$1
def lenB (K i j v : Nat) : Nat := if v < i then K else if v = i then j else 0
structure BoI (K : Nat) (G : Nat → Nat → Int) (i j : Nat) (H : HS) : Prop where
 ok : ∃ nz cv C ids sps, Jm K nz cv C ids sps H.heap H.next ∧ (∀ v, v < K → nz v = decide (v < i ∨ (v = i ∧ 0 < j))) ∧ (∀ v, v < K → cv v = if nz v = true then .ms (ids v) (sps v) 1 0 (lenB K i j v) none else .nils) ∧ (∀ v, v < K → nz v = true → C v = (ze0 G K v).take (lenB K i j v))
 h1 : Am.look 1 H.heap = some (0, .cells [.int .i64 0, .nils])
 h2 : Am.look 2 H.heap = some (0, .cells [.int .i64 ((K : Nat) - 1), .ms 0 0 1 0 K (some K)])
theorem BoI.row {K : Nat} {G : Nat → Nat → Int} {i : Nat} {H : HS} (hK : 0 < K) (h : BoI K G i K H) : BoI K G (i + 1) 0 H := by
 obtain ⟨nz, cv, C, ids, sps, hJ, a, b, c⟩ := h.ok
 have hl : ∀ v, v < i + 1 → lenB K i K v = lenB K (i + 1) 0 v := fun v hv => by
  unfold lenB
  rw [if_pos hv]
  by_cases e : v < i
  ·rw [if_pos e]
  ·rw [if_neg e, if_pos (by omega)]
 have hn : ∀ v, v < K → (nz v = true ↔ v < i + 1) := fun v hv => by
  rw [a v hv, decide_eq_true_eq]
  omega
 refine ⟨⟨nz, cv, C, ids, sps, hJ, fun v hv => ?_, fun v hv => ?_, fun v hv hz => ?_⟩, h.h1, h.h2⟩
 ·rw [a v hv, Bool.eq_iff_iff, decide_eq_true_eq, decide_eq_true_eq]
  omega
 ·rw [b v hv]
  by_cases e : nz v = true
  ·rw [if_pos e, if_pos e, hl v ((hn v hv).1 e)]
  ·rw [if_neg e, if_neg e]
 ·rw [c v hv hz, hl v ((hn v hv).1 hz)]
theorem sqv_get (K : Nat) (G : Nat → Nat → Int) {i j : Nat} (hi : i < 13) (hj : j < 13) : ((((sqC K G).drop 1).drop (((i : Nat) : Int).toNat * 13)).drop (((j : Nat) : Int).toNat * 1)) = .int .i64 (G i j) :: (sqC K G).drop (0 + 1 + ((i : Nat) : Int).toNat * 13 + ((j : Nat) : Int).toNat * 1 + 1) := by
 have h := zql K G hi hj
 obtain ⟨h1, h2⟩ := y03.1 h
 rw [List.drop_drop, List.drop_drop, show 1 + (((i : Nat) : Int).toNat * 13 + ((j : Nat) : Int).toNat * 1) = 0 + 1 + ((i : Nat) : Int).toNat * 13 + ((j : Nat) : Int).toNat * 1 by omega, y1o h1, h2]
-- (*pneumatic/bounds.square).bounds
theorem mat_flat (D : Nat → Nat → Int) (K : Nat) : ((List.range K).map fun v => vsI (ze0 D K v)) = ((zca D K).map fun r => ([vsI r] : List AV)).flatten := by
 unfold zca
 rw [y1v]
 induction (List.range K) with
 | nil => rfl
 | cons x l ih =>
  rw [y16, y16, y1t, ← ih]
  rfl
theorem zn2 (D : Nat → Nat → Int) (K : Nat) : ∀ l : List Nat, hasM.hasML (l.map fun v => vsI (ze0 D K v)) = false
 | [] => rfl
 | _ :: l => by
  rw [y16]
  show (hasM (vsI _) || hasM.hasML _) = false
  rw [zn2 D K l]
  rfl
theorem zhg (l : List Int) : l.map (AV.int .i64) = (l.map fun z => ([.int .i64 z] : List AV)).flatten := by
 induction l with
 | nil => rfl
 | cons x l ih =>
  rw [y16, y16, y1t, ← ih]
  rfl
theorem zeb {x y : Nat} {l : List Nat} (h : x ≠ y) (hl : memN x l = false) : memN x (y :: l) = false := by
 cases hb : memN x (y :: l) with
 | false => rfl
 | true =>
  rcases y0n.1 (zfe.1 hb) with e | e
  ·exact absurd e h
  ·rw [zfe.2 e] at hl
   cases hl
-- (*pneumatic/bounds.square).limited$1
-- (*pneumatic/bounds.square).limited
structure LiI (i j : Nat) (H : HS) : Prop where
 h0 : Am.look 0 H.heap = some (0, .cells [.int .i64 0, .nils])
 h1 : Am.look 1 H.heap = some (0, .cells [.int .i64 0])
 nx : 1 < H.next
-- pneumatic/bounds.closed
def ic31 : IC := .seq (.region [oM 1 (.box (.t 0)),
  oM 2 (.mov (.c (.nilp))),
  oM 3 (.mov (.c (.nils)))] none)
 (.seq (.seq (.region [oL 6 2 1,
  oM 7 (.call (.c (.fn 51 [] [])) [(.t 6)]),
  oT 4 7] none)
 (.seq (.region [oT 8 4,
  oM 9 (.nilq true (.t 8))] none)
 (.cond (.t 9) (.seq (.region [oT 10 4,
  oM 2 (.mov (.c (.nilp))),
  oT 3 10] none)
 (.ret))
 (.skip))))
 (.seq (.region [oL 11 2 1,
  oM 12 (.call (.c (.fn 52 [] [])) [(.t 11)]),
  oT 5 12] none)
 (.seq (.region [oT 13 5,
  oM 14 (.call (.c (.fn 53 [] [])) [(.t 13)])] none)
 (.seq (.region [oT 15 5,
  oT 2 15,
  oM 3 (.mov (.c (.nils)))] none)
 (.ret)))))
theorem fn31 : env0.fn 31 = some ⟨16, ic31, [.t 2, .t 3]⟩ := by kernel_rfl
set_option maxHeartbeats 2000000 in
set_option maxRecDepth 20000 in
theorem zt0 {w0 : World} {N0 : Nat} {n : Nat} {D : Nat → Nat → Int} {Gs : Nat → Nat → Nat → Int} (hn : n ≤ 12) (p51 : PF Try.prog 51 [cB (n : Nat) (zca D (n + 1))] .nil0) (hp : PvO (n + 1) Gs) (hg : Gs 0 = ofG D (n + 1) (n + 1) 0) (B : HS) :
  FT Try.prog w0 N0 31 [cB (n : Nat) (zca D (n + 1))] B fun v H' => ∃ id s, v = .tup [.mptr id s 0, .nils] ∧ KpH B H' ∧ B.next ≤ id ∧ id < H'.next ∧ Am.look id H'.heap = some (s, .cells (sqC (n + 1) (Gs (n + 1)))) := by
 refine zeh env0_ok fn31 [(0, .agg [.int .i64 (n : Nat), cM (zca D (n + 1))])] (by show 1 ≤ 16; decide) rfl ?_
 unfold ic31
 refine zsr rfl (zd6 rfl rfl (za1 rfl (za1 rfl (onu (za7 (zsr rfl ?_))))))
 refine zhk (sp := B.clk) (cs := [.int .i64 (n : Nat), cM (zca D (n + 1))]) rfl zah (y0q _) rfl rfl ?_
 refine zat rfl rfl p51 noC ?_
 refine za1 rfl (onr rfl (za1 rfl ?_))
 refine o_nil0 rfl ?_
 refine onu (zbn rfl (zae (za5 (zsr rfl ?_))))
 refine zhk (sp := B.clk) (cs := [.int .i64 (n : Nat), cM (zca D (n + 1))]) rfl zah (y0q _) rfl rfl ?_
 refine zry _ rfl rfl (zi8 (of52 hn ⟨_, _, _⟩)) (fun _ _ _ _ hm => absurd hm y0h) fun v H2 hF => ?_
 obtain ⟨s, rfl, hk, hl, hx⟩ := hF
 have hx : B.next + 1 + 3 ≤ H2.next := hx
 have hl : Am.look (B.next + 1 + 1) H2.heap = _ := hl
 refine za1 rfl (onr rfl (za1 rfl ?_))
 refine zry _ rfl rfl (zi8 (close53 (Gs := Gs) (by omega) hp ⟨_, _, _⟩ (by rw [hg]; exact hl) (by show B.next + 1 + 1 < H2.next; omega))) (fun _ _ _ _ hm => absurd hm y0h) fun v H3 hF => ?_
 obtain ⟨k3, l3, n3⟩ := hF
 have n3 : H2.next ≤ H3.next := n3
 have k1 : B.next + 1 ≤ H2.next := hk.1
 refine onr rfl (za1 rfl (za1 rfl (za1 rfl (onu (zau ?_)))))
 refine zao ⟨.inr rfl, _, rfl, B.next + 1 + 1, s, rfl, ⟨by show B.next ≤ H3.next; omega, fun x hx2 => ?_⟩, by omega, by show B.next + 1 + 1 < H3.next; omega, l3⟩
 have e1 : Am.look x H3.heap = Am.look x H2.heap := k3 x (by show x < H2.next; omega) (fun e => by have e : x = B.next + 1 + 1 := e; omega)
 have e2 := hk.2 x (by show x < B.next + 1; omega)
 dsimp only at e2
 rw [za3, if_neg (by omega)] at e2
 exact e1.trans e2
theorem sq_hasM (k : Nat) (G : Nat → Nat → Int) : hasM.hasML (sqC k G) = false := by
 have h : ∀ l : List Nat, hasM.hasML (l.map fun p => AV.int .i64 (G (p / 13) (p % 13))) = false := by
  intro l
  induction l with
  | nil => rfl
  | cons x l ih =>
   rw [y16]
   show (hasM (AV.int .i64 _) || hasM.hasML _) = false
   rw [ih]
   rfl
 unfold sqC
 show (hasM (AV.int .i64 _) || hasM.hasML _) = false
 rw [h]
 rfl
theorem znu (id s : Nat) (cs : List AV) : fzl id s [(id, s, cs)] = some cs := by
 rw [fzl, y2a, y2a]
 rfl
theorem o_peqn {P : Program} {w0 : World} {N0 n nx ck d id sp off : Nat} {mk : List (Nat × Nat)} {md : Md} {pf : Kn} {ios : List Opr} {k : List Fr} {Q : Exit → AS → Prop} {l : List (Nat × AV)} {hp : List (Nat × Nat × AObj)} {x : Arg} (hx : zb6 x l = some (.mptr id sp off))
  (go : Om P w0 N0 md pf ios (st n ((d, .bool false) :: l) hp nx ck mk) k Q) (hxo : Ops pf (st n l hp nx ck mk) (.peq false x (.c .nilp)) := by exact trivial) :
  Om P w0 N0 md pf (⟨some d, .peq false x (.c .nilp), none⟩ :: ios) (st n l hp nx ck mk) k Q :=
 zdt (by simp only [iop, zaq, hx]; rfl) go hxo
end Go.Proofs.Ytfbeableaihooaa
