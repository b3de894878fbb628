/-
  AN ABSTRACT MACHINE FOR PROOFS, PART 1. A general base for proofs: no program is named here.
-/
import Derived.OrdersIn
import Derived.RangeFuncLeaves
import Derived.Below
import Derived.RangeFuncRecord
import Derived.WalkKit
namespace Go.Am
open Go Go.RowKit
theorem y00 : type_of% @Option.some.injEq := @Option.some.injEq
theorem y01 : type_of% @List.mem_cons_self := @List.mem_cons_self
theorem y02 : type_of% @Array.getD_eq_getD_getElem? := @Array.getD_eq_getD_getElem?
theorem y03 : type_of% @Option.map_eq_some_iff := @Option.map_eq_some_iff
theorem y04 : type_of% @Nat.le_of_ble_eq_true := @Nat.le_of_ble_eq_true
theorem y05 : type_of% @List.getElem?_eq_some_iff := @List.getElem?_eq_some_iff
theorem y06 : type_of% @List.length_map := @List.length_map
theorem y07 : type_of% @Nat.lt_succ_self := @Nat.lt_succ_self
theorem y08 : type_of% @Nat.le_refl := @Nat.le_refl
theorem y09 : type_of% @Nat.lt_of_lt_of_le := @Nat.lt_of_lt_of_le
theorem y0a : type_of% @List.mem_cons_of_mem := @List.mem_cons_of_mem
theorem y0b : type_of% @Prod.mk.injEq := @Prod.mk.injEq
theorem y0c : type_of% @List.not_mem_nil := @List.not_mem_nil
theorem y0d : type_of% @List.getElem?_eq_getElem := @List.getElem?_eq_getElem
theorem y0e : type_of% @Array.getElem?_eq_some_iff := @Array.getElem?_eq_some_iff
theorem y0f : type_of% @List.mem_cons := @List.mem_cons
theorem y0g : type_of% @Bool.and_eq_true := @Bool.and_eq_true
theorem y0h : type_of% @List.all_eq_true := @List.all_eq_true
theorem y0i : type_of% @List.mem_of_getElem? := @List.mem_of_getElem?
theorem y0j : type_of% @List.getD_eq_getElem?_getD := @List.getD_eq_getElem?_getD
theorem y0k : type_of% @List.length_eq_zero_iff := @List.length_eq_zero_iff
theorem y0l : type_of% @List.length_append := @List.length_append
theorem y0m : type_of% @List.mem_range := @List.mem_range
theorem y0n : type_of% @List.getElem?_map := @List.getElem?_map
theorem y0o : type_of% @List.mem_singleton := @List.mem_singleton
theorem y0p : type_of% @List.mem_map := @List.mem_map
theorem y0q : type_of% @List.drop_eq_getElem_cons := @List.drop_eq_getElem_cons
theorem y0r : type_of% @Nat.zero_le := @Nat.zero_le
theorem y0s : type_of% @List.append_nil := @List.append_nil
theorem y0t : type_of% @Bool.false_eq_true := @Bool.false_eq_true
theorem y0u : type_of% @Nat.le_trans := @Nat.le_trans
theorem y0v : type_of% @Bool.or_eq_true := @Bool.or_eq_true
theorem y0w : type_of% @Option.bind_eq_some_iff := @Option.bind_eq_some_iff
theorem y0x : type_of% @List.getElem_mem := @List.getElem_mem
theorem y0y : type_of% @Nat.le_succ := @Nat.le_succ
theorem y0z : type_of% @List.getElem?_append_left := @List.getElem?_append_left
theorem y10 : type_of% @List.take_succ_cons := @List.take_succ_cons
theorem y11 : type_of% @Int.natCast_nonneg := @Int.natCast_nonneg
theorem y12 : type_of% @List.getElem?_append_right := @List.getElem?_append_right
theorem y13 : type_of% @List.getElem?_take_of_lt := @List.getElem?_take_of_lt
theorem y14 : type_of% @Nat.eq_of_beq_eq_true := @Nat.eq_of_beq_eq_true
theorem y15 : type_of% @Nat.lt_succ_of_lt := @Nat.lt_succ_of_lt
theorem y16 : type_of% @List.map_append := @List.map_append
theorem y17 : type_of% @Array.getElem?_eq_getElem := @Array.getElem?_eq_getElem
theorem y18 : type_of% @List.getElem?_drop := @List.getElem?_drop
theorem y19 : type_of% @List.length_cons := @List.length_cons
theorem y1a : type_of% @List.mem_append_right := @List.mem_append_right
theorem y1b : type_of% @Nat.zero_add := @Nat.zero_add
theorem y1c : type_of% @List.flatten_cons := @List.flatten_cons
theorem y1d : type_of% @List.map_cons := @List.map_cons
theorem y1e : type_of% @Int.toNat_natCast := @Int.toNat_natCast
theorem y1f : type_of% @List.mem_append_left := @List.mem_append_left
theorem y1g : type_of% @List.mem_iff_getElem := @List.mem_iff_getElem
theorem y1h : type_of% @List.getElem?_cons_zero := @List.getElem?_cons_zero
theorem y1i : type_of% @Int.ofNat_lt := @Int.ofNat_lt
theorem y1j : type_of% @Classical.byContradiction := @Classical.byContradiction
theorem y1k : type_of% @Nat.lt_succ_iff_lt_or_eq := @Nat.lt_succ_iff_lt_or_eq
theorem y1l : type_of% @List.drop_length := @List.drop_length
theorem y1m : type_of% @List.contains_iff_mem := @List.contains_iff_mem
theorem y1n : type_of% @List.mem_append := @List.mem_append
theorem y1o : type_of% @Bool.true_and := @Bool.true_and
theorem y1p : type_of% @Option.getD_some := @Option.getD_some
theorem y1q : type_of% @Nat.not_lt_zero := @Nat.not_lt_zero
theorem y1r : type_of% @Array.getElem?_toList := @Array.getElem?_toList
theorem y1s : type_of% @List.all_cons := @List.all_cons
theorem y1t : type_of% @List.take_length := @List.take_length
theorem y1u : type_of% @Bool.not_eq_true' := @Bool.not_eq_true'
theorem y1v : type_of% @List.length_range := @List.length_range
theorem y1w : type_of% @List.append_assoc := @List.append_assoc
theorem y1x : type_of% @Bool.or_eq_false_iff := @Bool.or_eq_false_iff
theorem y1y : type_of% @List.nil_append := @List.nil_append
theorem y1z : type_of% @List.length_singleton := @List.length_singleton
theorem y20 : type_of% @Nat.lt_or_ge := @Nat.lt_or_ge
theorem y21 : type_of% @Nat.lt_irrefl := @Nat.lt_irrefl
theorem y22 : type_of% @Classical.not_not := @Classical.not_not
theorem y23 : type_of% @Nat.succ_mul := @Nat.succ_mul
theorem y24 : type_of% @List.length_set := @List.length_set
theorem y25 : type_of% @List.mem_filter := @List.mem_filter
theorem y26 : type_of% @List.drop_zero := @List.drop_zero
theorem y27 : type_of% @List.length_replicate := @List.length_replicate
theorem y28 : type_of% @Bool.false_and := @Bool.false_and
theorem y29 : type_of% @List.mapM_cons := @List.mapM_cons
theorem y2a : type_of% @Bool.false_ne_true := @Bool.false_ne_true
theorem y2b : type_of% @Nat.add_assoc := @Nat.add_assoc
theorem y2c : type_of% @Option.bind_some := @Option.bind_some
theorem y2d : type_of% @List.map_map := @List.map_map
theorem y2e : type_of% @Nat.add_zero := @Nat.add_zero
theorem y2f : type_of% @List.any_eq_true := @List.any_eq_true
theorem y2g : type_of% @List.contains_eq_mem := @List.contains_eq_mem
theorem y2h : type_of% @Nat.beq_refl := @Nat.beq_refl
theorem y2i : type_of% @Option.map_map := @Option.map_map
theorem y2j : type_of% @Int.le_refl := @Int.le_refl
theorem y2k : type_of% @List.nodup_cons := @List.nodup_cons
theorem y2l : type_of% @List.all_nil := @List.all_nil
theorem y2m : type_of% @List.mem_filterMap := @List.mem_filterMap
theorem y2n : type_of% @Nat.zero_mul := @Nat.zero_mul
theorem y2o : type_of% @Nat.add_mul := @Nat.add_mul
theorem y2p : type_of% @Option.some.inj := @Option.some.inj
inductive AV where
 | top
 | bool (b : Bool)
 | int (k : IntKind) (n : Int)
 | str (s : List UInt8)
 | nilp
 | vptr (cells : List AV)
 | mptr (id st off : Nat)
 | nils
 | vs (es : List (List AV))
 | ms (id st sz off len : Nat) (cap : Option Nat)
 | fn (f : FuncId) (first cap : List AV)
 | yield (id st : Nat)
 | nilf
 | agg (cs : List AV)
 | tup (vs : List AV)
 | mapv (id st : Nat)
 | rng (k : IntKind) (lo hi : Int)
 | ints (k : IntKind) (l : List Int)
 | strA (no : List (List UInt8)) (lo hi : Nat)
 | nil0
inductive Loc where
 | void
 | at (b base n : Nat)
structure LI where
 loc : Nat -> Nat -> Option Loc
 clk : Nat
 ok : Nat -> Prop
def LI.ro (I : LI) (b : Nat) : Prop := I.ok b /\ ∀ id st base n, I.loc id st ≠ some (.at b base n)
inductive VRel (w : World) (ro : Nat -> Prop) : Option LI -> AV -> Value -> Prop
 | top {L u} : VRel w ro L .top u
 | bool {L b} : VRel w ro L (.bool b) (.bool b)
 | int {L k n} : VRel w ro L (.int k n) (.int k n)
 | str {L} {t : ByteArray} : VRel w ro L (.str t.data.toList) (.string t)
 | nilp {L} : VRel w ro L .nilp (.pointer none)
 | vptr {L cells b off} (us : Nat -> Value) (hc : ∀ i x, cells[i]? = some x -> ro b /\ w.cell? ⟨b, off + i, none⟩ = some (us i))
   (hv : ∀ i x, cells[i]? = some x -> VRel w ro none x (us i)) : VRel w ro L (.vptr cells) (.pointer (some ⟨b, off, none⟩))
 | mptr {L id st off u} (hk : ∃ p, u = .pointer (some p)) (h : ∃ I, L = some I /\ st < I.clk /\ I.loc id st ≠ some .void /\ ∀ b base n, I.loc id st = some (.at b base n) -> u = .pointer (some ⟨b, base + off, none⟩)) : VRel w ro L (.mptr id st off) u
 | nils {L a} : VRel w ro L .nils (.slice a 0 0)
 | nil0 {L} : VRel w ro L .nil0 (.slice none 0 0)
 | vs {L es a len cap sz b off} (us : Nat -> Nat -> Value) (hl : len = es.length) (hcap : len <= cap) (ha : es ≠ [] -> a = some ⟨b, off, none⟩) (hsz : ∀ e ∈ es, e.length = sz)
   (hc : ∀ i j e x, es[i]? = some e -> e[j]? = some x -> ro b /\ w.cell? ⟨b, off + i * sz + j, none⟩ = some (us i j))
   (hv : ∀ i j e x, es[i]? = some e -> e[j]? = some x -> VRel w ro none x (us i j)) : VRel w ro L (.vs es) (.slice a len cap)
 | ms {L id st sz off len cap p c} (hl : len <= c) (hp : 0 < c -> ∃ q, p = some q) (hcap : ∀ k, cap = some k -> c = k) (h : ∃ I, L = some I /\ st < I.clk /\
   (∀ b base n, I.loc id st = some (.at b base n) -> c = 0 \/ (p = some ⟨b, base + off, none⟩ /\ (cap = none -> base + off + c * sz = n))) /\
   (I.loc id st = some .void -> c = 0)) : VRel w ro L (.ms id st sz off len cap) (.slice p len c)
 | fn {L f first cap} {fs cs : Array Value} (h1 : fs.size = first.length) (h2 : cs.size = cap.length) (hf : ∀ i x, first[i]? = some x -> VRel w ro L x (fs.getD i undef))
   (hc : ∀ i x, cap[i]? = some x -> VRel w ro L x (cs.getD i undef)) : VRel w ro L (.fn f first cap) (.func (.func f) fs cs)
 | yield {L id st u} (hk : ∃ f, u = .func f #[] #[]) (h : ∃ I, L = some I /\ st < I.clk /\ ∀ b base n, I.loc id st = some (.at b base n) -> u = .func (.yield b) #[] #[]) : VRel w ro L (.yield id st) u
 | nilf {L} : VRel w ro L .nilf .nilFunc
 | agg {L cs} {us : Array Value} (h1 : us.size = cs.length) (h : ∀ i x, cs[i]? = some x -> VRel w ro L x (us.getD i undef)) : VRel w ro L (.agg cs) (.agg us)
 | tup {L vs} {us : Array Value} (h1 : us.size = vs.length) (h : ∀ i x, vs[i]? = some x -> VRel w ro L x (us.getD i undef)) : VRel w ro L (.tup vs) (.tuple us)
 | mapv {L id st u} (hk : ∃ r, u = .map r) (h : ∃ I, L = some I /\ st < I.clk /\ ∀ b base n, I.loc id st = some (.at b base n) -> u = .map (some b)) : VRel w ro L (.mapv id st) u
 | rng {L k n lo hi} (h1 : lo <= n) (h2 : n <= hi) : VRel w ro L (.rng k lo hi) (.int k n)
 | ints {L k n l} (h : n ∈ l) : VRel w ro L (.ints k l) (.int k n)
 | strA {L no lo hi} {t : ByteArray} (h : ∀ s ∈ no, t.data.toList ≠ s) (h1 : lo <= t.data.toList.length) (h2 : t.data.toList.length <= hi) : VRel w ro L (.strA no lo hi) (.string t)
def LLe : Option LI -> Option LI -> Prop
 | none, _ => True
 | some _, none => False
 | some I, some J => I.clk <= J.clk /\ ∀ id st l, st < I.clk -> J.loc id st = some l -> I.loc id st = some l
theorem LLe.refl : ∀ L, LLe L L
 | none => trivial
 | some _ => ⟨y08 _, fun _ _ _ _ h => h⟩
theorem LLe.some {I : LI} {L : Option LI} (h : LLe (some I) L) : ∃ J, L = some J /\ I.clk <= J.clk /\ ∀ id st l, st < I.clk -> J.loc id st = some l -> I.loc id st = some l := by
 cases L with
 | none => exact h.elim
 | some J => exact ⟨J, rfl, h.1, h.2⟩
theorem VRel.mono {w w' : World} {ro ro' : Nat -> Prop} {L : Option LI} {v : AV} {u : Value} (h : VRel w ro L v u)
  (hr : ∀ b i x, ro b -> w.cell? ⟨b, i, none⟩ = some x -> ro' b /\ w'.cell? ⟨b, i, none⟩ = some x) :
  ∀ {L' : Option LI}, LLe L L' -> VRel w' ro' L' v u := by
 induction h with
 | top => intro L' _; exact .top
 | bool => intro L' _; exact .bool
 | int => intro L' _; exact .int
 | str => intro L' _; exact .str
 | nilp => intro L' _; exact .nilp
 | vptr us hc hv ih =>
  intro L' _;exact .vptr us (fun i x hx => hr _ _ _ (hc i x hx).1 (hc i x hx).2) (fun i x hx => ih i x hx (LLe.refl _))
 | mptr hk h =>
  intro L' hl;obtain ⟨I, rfl, h1, h0, h2⟩ := h;obtain ⟨J, rfl, j1, j2⟩ := hl.some;exact .mptr hk ⟨J, rfl, y09 h1 j1, fun hv => h0 (j2 _ _ _ h1 hv), fun b base n hb => h2 b base n (j2 _ _ _ h1 hb)⟩
 | nils => intro L' _; exact .nils
 | nil0 => intro L' _; exact .nil0
 | vs us hl hcap ha hsz hc hv ih =>
  intro L' _;exact .vs us hl hcap ha hsz (fun i j e x he hx => hr _ _ _ (hc i j e x he hx).1 (hc i j e x he hx).2) (fun i j e x he hx => ih i j e x he hx (LLe.refl _))
 | ms hl hp hcap h =>
  intro L' hL;obtain ⟨I, rfl, h1, h2, h3⟩ := h;obtain ⟨J, rfl, j1, j2⟩ := hL.some;exact .ms hl hp hcap ⟨J, rfl, y09 h1 j1, fun b base n hb => h2 b base n (j2 _ _ _ h1 hb), fun hb => h3 (j2 _ _ _ h1 hb)⟩
 | fn h1 h2 hf hc ihf ihc => intro L' hl; exact .fn h1 h2 (fun i x hx => ihf i x hx hl) (fun i x hx => ihc i x hx hl)
 | yield hk h =>
  intro L' hl;obtain ⟨I, rfl, h1, h2⟩ := h;obtain ⟨J, rfl, j1, j2⟩ := hl.some;exact .yield hk ⟨J, rfl, y09 h1 j1, fun b base n hb => h2 b base n (j2 _ _ _ h1 hb)⟩
 | nilf => intro L' _; exact .nilf
 | agg h1 h ih => intro L' hl; exact .agg h1 (fun i x hx => ih i x hx hl)
 | tup h1 h ih => intro L' hl; exact .tup h1 (fun i x hx => ih i x hx hl)
 | mapv hk h =>
  intro L' hl;obtain ⟨I, rfl, h1, h2⟩ := h;obtain ⟨J, rfl, j1, j2⟩ := hl.some;exact .mapv hk ⟨J, rfl, y09 h1 j1, fun b base n hb => h2 b base n (j2 _ _ _ h1 hb)⟩
 | rng h1 h2 => intro L' _; exact .rng h1 h2
 | ints h => intro L' _; exact .ints h
 | strA h h1 h2 => intro L' _; exact .strA h h1 h2
def GTAB : List (Nat × List AV) := []
def GOk (ro : Nat -> Prop) (w : World) : Prop := ∀ x ∈ GTAB, VRel w ro none (.vptr x.2) (.pointer (some ⟨x.1, 0, none⟩))
theorem GOk.mono {w w' : World} {ro ro' : Nat -> Prop} (h : GOk ro w) (hr : ∀ b i x, ro b -> w.cell? ⟨b, i, none⟩ = some x -> ro' b /\ w'.cell? ⟨b, i, none⟩ = some x) : GOk ro' w' :=
 fun x hx => (h x hx).mono hr trivial
def globC : Nat -> List (Nat × List AV) -> Option (List AV)
 | _, [] => none
 | g, (h, cs) :: l => if h = g then some cs else globC g l
theorem zoh {g : Nat} {cs : List AV} : ∀ {l : List (Nat × List AV)}, globC g l = some cs -> (g, cs) ∈ l
 | [], h => by cases h
 | (k, c) :: l, h => by
  simp only [globC] at h;split at h
  ·rename_i e; subst e; injection h with h; subst h; exact y01 ..
  ·exact y0a _ (zoh h)
theorem VRel.pure {w : World} {ro : Nat -> Prop} {L : Option LI} {v : AV} {u : Value} (h : VRel w ro none v u) : VRel w ro L v u :=
 h.mono (fun _ _ _ a b => ⟨a, b⟩) trivial
def strip : AV -> AV
 | .mptr .. | .ms .. | .yield .. | .mapv .. => .top
 | .agg cs => .agg (stripL cs)
 | .tup cs => .tup (stripL cs)
 | .fn f a b => .fn f (stripL a) (stripL b)
 | v => v
where
 stripL : List AV -> List AV
  | [] => []
  | v :: l => strip v :: stripL l
theorem zho : ∀ l, strip.stripL l = l.map strip
 | [] => rfl
 | v :: l => by simp [strip.stripL, zho l]
theorem VRel.strip {w : World} {ro : Nat -> Prop} {L : Option LI} {v : AV} {u : Value} (h : VRel w ro L v u) : VRel w ro none (strip v) u := by
 have get : ∀ (l : List AV) (i : Nat) (x : AV), (l.map Go.Am.strip)[i]? = some x -> ∃ y, l[i]? = some y /\ x = Go.Am.strip y := by
  intro l i x hx;rw [y0n, y03] at hx;obtain ⟨y, hy, rfl⟩ := hx;exact ⟨y, hy, rfl⟩
 induction h with
 | top => exact .top
 | bool => exact .bool
 | int => exact .int
 | str => exact .str
 | nilp => exact .nilp
 | vptr us hc hv ih => exact .vptr us hc hv
 | mptr => exact .top
 | nils => exact .nils
 | nil0 => exact .nil0
 | vs us hl hcap ha hsz hc hv ih => exact .vs us hl hcap ha hsz hc hv
 | ms => exact .top
 | fn h1 h2 hf hc ihf ihc =>
  simp only [Go.Am.strip, zho];refine .fn (by simpa using h1) (by simpa using h2) (fun i x hx => ?_) (fun i x hx => ?_)
  ·obtain ⟨y, hy, rfl⟩ := get _ _ _ hx; exact ihf i y hy
  ·obtain ⟨y, hy, rfl⟩ := get _ _ _ hx; exact ihc i y hy
 | yield => exact .top
 | nilf => exact .nilf
 | agg h1 h ih =>
  simp only [Go.Am.strip, zho];refine .agg (by simpa using h1) (fun i x hx => ?_);obtain ⟨y, hy, rfl⟩ := get _ _ _ hx; exact ih i y hy
 | tup h1 h ih =>
  simp only [Go.Am.strip, zho];refine .tup (by simpa using h1) (fun i x hx => ?_);obtain ⟨y, hy, rfl⟩ := get _ _ _ hx; exact ih i y hy
 | mapv => exact .top
 | rng h1 h2 => exact .rng h1 h2
 | ints h => exact .ints h
 | strA h h1 h2 => exact .strA h h1 h2
def look {α : Type} (i : Nat) : List (Nat × α) -> Option α
 | [] => none
 | (j, v) :: l => match Nat.beq j i with
  | true => some v
  | false => look i l
def zap {α : Type} (i : Nat) (v : α) : List (Nat × α) -> List (Nat × α)
 | [] => [(i, v)]
 | (j, u) :: l => match Nat.beq j i with
  | true => (i, v) :: l
  | false => (j, u) :: zap i v l
def zbx {α : Type} (i : Nat) : List (Nat × α) -> List (Nat × α)
 | [] => []
 | (j, u) :: l => match Nat.beq j i with
  | true => zbx i l
  | false => (j, u) :: zbx i l
theorem zeg {α : Type} (i : Nat) : look i ([] : List (Nat × α)) = none := rfl
theorem putl_nil {α : Type} (i : Nat) (v : α) : zap i v [] = [(i, v)] := rfl
theorem zv1 {α : Type} (i : Nat) : zbx i ([] : List (Nat × α)) = [] := rfl
theorem zqu {α : Type} (i j : Nat) (a b : α) : (match Nat.beq j i with | true => a | false => b) = if j = i then a else b := by
 by_cases h : j = i
 ·rw [if_pos h, show Nat.beq j i = true from by rw [h]; exact y2h i]
 ·rw [if_neg h, show Nat.beq j i = false from by cases hb : Nat.beq j i with | false => rfl | true => exact absurd (y14 hb) h]
theorem zak {α : Type} (i j : Nat) (v : α) (l : List (Nat × α)) : look i ((j, v) :: l) = if j = i then some v else look i l := by rw [look]; exact zqu ..
theorem zoz {α : Type} (i j : Nat) (u v : α) (l : List (Nat × α)) : zap i v ((j, u) :: l) = if j = i then (i, v) :: l else (j, u) :: zap i v l := by rw [zap]; exact zqu ..
theorem zsv {α : Type} (i j : Nat) (u : α) (l : List (Nat × α)) : zbx i ((j, u) :: l) = if j = i then zbx i l else (j, u) :: zbx i l := by rw [zbx]; exact zqu ..
theorem za0 {α : Type} (i j : Nat) (v : α) : ∀ l : List (Nat × α), look i (zap j v l) = if j = i then some v else look i l
 | [] => by simp [putl_nil, zeg, zak]
 | (k, u) :: l => by
  simp only [zoz];by_cases h : k = j
  ·subst h; simp only [if_true, zak]; split <;> rfl
  ·simp only [if_neg h, zak, za0 i j v l];by_cases h2 : k = i
   ·subst h2; rw [if_pos rfl, if_pos rfl, if_neg (fun e => h e.symm)]
   ·rw [if_neg h2, if_neg h2]
theorem zac {α : Type} (i j : Nat) : ∀ l : List (Nat × α), look i (zbx j l) = if j = i then none else look i l
 | [] => by simp [zv1, zeg]
 | (k, u) :: l => by
  simp only [zsv];by_cases h : k = j
  ·subst h; simp only [if_true, zac i k l, zak]; split <;> rfl
  ·simp only [if_neg h, zak, zac i j l];by_cases h2 : k = i
   ·subst h2; rw [if_pos rfl, if_pos rfl, if_neg (fun e => h e.symm)]
   ·rw [if_neg h2, if_neg h2]
inductive TM where
 | nil
 | nd (v : Option AV) (l r : TM)
def zq8 : Nat -> Nat -> List Bool
 | 0, _ => []
 | f + 1, n => match Nat.beq n 0 with
  | true => []
  | false => Nat.beq (n % 2) 0 :: zq8 f ((n - 1) / 2)
def zoy (n : Nat) : List Bool := zq8 n n
theorem zox : ∀ (f g n m : Nat), n <= f -> m <= g -> zq8 f n = zq8 g m -> n = m
 | 0, 0, n, m, h1, h2, _ => by omega
 | 0, g + 1, n, m, h1, h2, h => by
  simp only [zq8] at h;cases hb : Nat.beq m 0 with
  | true => have := y14 hb; omega
  | false => rw [hb] at h; cases h
 | f + 1, 0, n, m, h1, h2, h => by
  simp only [zq8] at h;cases hb : Nat.beq n 0 with
  | true => have := y14 hb; omega
  | false => rw [hb] at h; cases h
 | f + 1, g + 1, n, m, h1, h2, h => by
  simp only [zq8] at h;cases hb : Nat.beq n 0 with
  | true =>
   cases hc : Nat.beq m 0 with
   | true => rw [y14 hb, y14 hc]
   | false => rw [hb, hc] at h; cases h
  | false =>
   cases hc : Nat.beq m 0 with
   | true => rw [hb, hc] at h; cases h
   | false =>
    rw [hb, hc] at h;simp only [List.cons.injEq] at h;have hn : n ≠ 0 := fun e => by subst e; simp at hb
    have hm : m ≠ 0 := fun e => by subst e; simp at hc
    have ih := zox f g ((n - 1) / 2) ((m - 1) / 2) (by omega) (by omega) h.2;have h3 : (n % 2 = 0) ↔ (m % 2 = 0) := by
     have e1 : ∀ x : Nat, Nat.beq x 0 = true ↔ x = 0 := fun x => ⟨y14, fun e => by rw [e]; rfl⟩
     rw [<- e1, <- e1, h.1]
    omega
theorem zt7 {n m : Nat} (h : zoy n = zoy m) : n = m := zox n m n m (y08 _) (y08 _) h
def TM.val : TM -> Option AV
 | .nil => none
 | .nd v _ _ => v
def getStep (b : Bool) (ih : TM -> Option AV) : TM -> Option AV
 | .nil => none
 | .nd _ l r => match b with
  | true => ih r
  | false => ih l
def TM.getP : List Bool -> TM -> Option AV
 | [] => TM.val
 | b :: p => getStep b (TM.getP p)
def setHere (o : Option AV) : TM -> TM
 | .nil => .nd o .nil .nil
 | .nd _ l r => .nd o l r
def setStep (b : Bool) (ih : TM -> TM) : TM -> TM
 | .nil => match b with
  | true => .nd none .nil (ih .nil)
  | false => .nd none (ih .nil) .nil
 | .nd v l r => match b with
  | true => .nd v l (ih r)
  | false => .nd v (ih l) r
def TM.setP (o : Option AV) : List Bool -> TM -> TM
 | [] => setHere o
 | b :: p => setStep b (TM.setP o p)
def zao (i : Nat) (t : TM) : Option AV := TM.getP (zoy i) t
def setT (i : Nat) (o : Option AV) (t : TM) : TM := TM.setP o (zoy i) t
def putT (i : Nat) (v : AV) (t : TM) : TM := TM.setP (some v) (zoy i) t
theorem zmx : ∀ p : List Bool, TM.getP p TM.nil = none
 | [] => rfl
 | _ :: _ => rfl
theorem zj1 (o : Option AV) : ∀ (q p : List Bool) (t : TM), TM.getP p (TM.setP o q t) = if q = p then o else TM.getP p t
 | [], [], t => by cases t <;> rfl
 | [], b :: p, t => by
  rw [if_neg (by simp)];cases t with
  | nil => cases b <;> exact zmx p
  | nd => rfl
 | b :: q, [], t => by
  rw [if_neg (by simp)];cases t <;> cases b <;> rfl
 | b :: q, c :: p, t => by
  cases b <;> cases c <;> cases t <;> first
   | (have := zj1 o q p .nil; rw [zmx] at this; simp only [List.cons.injEq, true_and]; exact this)
   | (rename_i v l r; have := zj1 o q p l; simp only [List.cons.injEq, true_and]; exact this)
   | (rename_i v l r; have := zj1 o q p r; simp only [List.cons.injEq, true_and]; exact this)
   | (rw [if_neg (by simp)]; exact zmx p)
   | (rw [if_neg (by simp)]; rfl)
theorem zew (i j : Nat) (o : Option AV) (t : TM) : zao i (setT j o t) = if j = i then o else zao i t := by
 unfold zao setT;rw [zj1];by_cases h : j = i
 ·rw [if_pos (by rw [h]), if_pos h]
 ·rw [if_neg (fun e => h (zt7 e)), if_neg h]
theorem zcc (i j : Nat) (v : AV) (t : TM) : zao i (putT j v t) = if j = i then some v else zao i t := zew i j (some v) t
theorem zdq (i : Nat) : zao i .nil = none := zmx _
inductive AObj where
 | cells (cs : List AV)
 | loop (state : LoopState) (pending : Option Code) (size : Nat) (tmps : TM) (ps : List Nat) (assign body : Code) (df : Nat × Nat)
 | deferred
 | map (entries : List (AV × AV))
 | typed (T : TypeId) (full : Bool) (cs : List AV)
structure AS where
 size : Nat
 tmps : TM
 heap : List (Nat × Nat × AObj)
 next : Nat
 clk : Nat
 marks : List (Nat × Nat)
def TRel (w : World) (ro : Nat -> Prop) (L : Option LI) (size : Nat) (tmps : TM) (ts : Array Value) : Prop :=
 ts.size = size /\ ∀ i v, zao i tmps = some v -> VRel w ro L v (ts.getD i undef)
def ORel (w : World) (I : LI) : Loc -> AObj -> Prop
 | .void, .cells cs => cs = []
 | .void, .typed _ _ cs => cs = []
 | .at b base n, .typed T full cs => base = 0 /\ (full = true -> n = cs.length) /\ ∃ c, w.heap[b]? = some (.cells c T (0, 0)) /\ c.size = n /\ base + cs.length <= n /\
   ∀ i x, cs[i]? = some x -> VRel w I.ro (some I) x (c.getD (base + i) undef)
 | .at b base n, .cells cs => ∃ c elem, w.heap[b]? = some (.cells c elem (0, 0)) /\ c.size = n /\ base + cs.length <= n /\
   ∀ i x, cs[i]? = some x -> VRel w I.ro (some I) x (c.getD (base + i) undef)
 | .at b _ _, .loop st pe size tmps ps assign body df => ∃ r : Loop, w.heap[b]? = some (.loop r) /\ r.state = st /\ r.pending = pe /\ TRel w I.ro (some I) size tmps r.tmps /\
   r.params.toList = ps /\ r.assign = assign /\ r.body = body /\ df.2 < I.clk /\ ∀ b' base' n', I.loc df.1 df.2 = some (.at b' base' n') -> r.defers = b'
 | .at b _ _, .deferred => w.heap[b]? = some (.deferred (some []))
 | .at b _ _, .map es => ∃ (l : Array MapEntry) (q : Nat), w.heap[b]? = some (.map l q) /\ l.size = es.length /\
   (∀ (i : Nat) (k v : AV), es[i]? = some (k, v) -> ∃ e : MapEntry, l[i]? = some e /\ VRel w I.ro (some I) k e.key /\ VRel w I.ro (some I) v e.val)
 | _, _ => False
structure HRel (w0 : World) (N0 : Nat) (I : LI) (hp : List (Nat × Nat × AObj)) (next : Nat) (w : World) : Prop where
 below : Below N0 w0 w
 base : N0 <= w0.heap.size
 heap : ∀ id st o, look id hp = some (st, o) -> st < I.clk /\ ∃ l, I.loc id st = some l /\ ORel w I l o
 locs : ∀ id st l, I.loc id st = some l -> ∃ o, look id hp = some (st, o)
 inj : ∀ id st b base n id' st' base' n', I.loc id st = some (.at b base n) -> I.loc id' st' = some (.at b base' n') -> id = id'
 fresh : ∀ id st b base n, I.loc id st = some (.at b base n) -> N0 <= b
 free : ∀ id, next <= id -> look id hp = none
 okN : ∀ b, N0 <= b -> I.ok b
 glob : GOk I.ro w
def DRel (I : LI) (hp : List (Nat × Nat × AObj)) (marks : List (Nat × Nat)) (ds : List Deferred) : Prop :=
 ds.length = marks.length /\ (∀ (i id st : Nat) (d : Deferred), marks[i]? = some (id, st) -> ds[i]? = some d ->
  look id hp = some (st, .deferred) /\ ∃ b base n, I.loc id st = some (.at b base n) /\ d = ({ target := .collected b, args := #[] } : Deferred)) /\ (marks.map (·.1)).Nodup
structure Rel (w0 : World) (N0 : Nat) (I : LI) (S : AS) (a : Act) (w : World) : Prop where
 clk : I.clk = S.clk
 tmps : TRel w I.ro (some I) S.size S.tmps a.tmps
 hrel : HRel w0 N0 I S.heap S.next w
 marks : DRel I S.heap S.marks a.defers
structure Evo (I : LI) (w : World) (I' : LI) (w' : World) : Prop where
 clk : I.clk <= I'.clk
 loc : ∀ id st l, st < I.clk -> I'.loc id st = some l -> I.loc id st = some l
 ro : ∀ b i x, I.ro b -> w.cell? ⟨b, i, none⟩ = some x -> I'.ro b /\ w'.cell? ⟨b, i, none⟩ = some x
 ok : I'.ok = I.ok
theorem Evo.refl (I : LI) (w : World) : Evo I w I w := ⟨y08 _, fun _ _ _ _ h => h, fun _ _ _ h h' => ⟨h, h'⟩, rfl⟩
theorem Evo.trans {I J K : LI} {w w' w'' : World} (h : Evo I w J w') (k : Evo J w' K w'') : Evo I w K w'' :=
 ⟨y0u h.clk k.clk, fun id st l hs hl => h.loc id st l hs (k.loc id st l (y09 hs h.clk) hl),
  fun b i x hr hc => let ⟨h1, h2⟩ := h.ro b i x hr hc; k.ro b i x h1 h2, k.ok.trans h.ok⟩
theorem VRel.evo {I I' : LI} {w w' : World} {v : AV} {u : Value} (h : VRel w I.ro (some I) v u) (e : Evo I w I' w') : VRel w' I'.ro (some I') v u :=
 h.mono e.ro ⟨e.clk, e.loc⟩
theorem TRel.evo {I I' : LI} {w w' : World} {size : Nat} {tmps : TM} {ts : Array Value} (h : TRel w I.ro (some I) size tmps ts) (e : Evo I w I' w') :
  TRel w' I'.ro (some I') size tmps ts := ⟨h.1, fun i v hv => (h.2 i v hv).evo e⟩
theorem TRel.put {w : World} {ro : Nat -> Prop} {L : Option LI} {size : Nat} {tmps : TM} {ts : Array Value} {d : Nat} {v : AV} {u : Value} (h : TRel w ro L size tmps ts) (hd : d < size) (hv : VRel w ro L v u) :
  TRel w ro L size (putT d v tmps) (ts.setIfInBounds d u) := by
 refine ⟨by simp [h.1], fun i x hx => ?_⟩;rw [zcc] at hx;by_cases hdi : d = i
 ·subst hdi;rw [if_pos rfl] at hx;injection hx with hx;subst hx;have : d < ts.size := h.1 ▸ hd;simpa [Array.getD, this] using hv
 ·rw [if_neg hdi] at hx;have := h.2 i x hx;simpa [y02, Array.getElem?_setIfInBounds_ne hdi] using this
def AS.get (S : AS) (i : Nat) : Option AV := zao i S.tmps
def AS.put (S : AS) (d : Option Nat) (v : AV) : AS :=
 match d with
 | some d => { S with tmps := putT d v S.tmps }
 | none => S
def zc6 (size : Nat) : Option Nat -> Bool
 | some d => decide (d < size)
 | none => true
theorem Rel.put {w0 : World} {N0 : Nat} {I : LI} {S : AS} {a : Act} {w : World} {d : Option Nat} {v : AV} {u : Value} (h : Rel w0 N0 I S a w) (hd : zc6 S.size d = true) (hv : VRel w I.ro (some I) v u) :
  Rel w0 N0 I (S.put d v) (a.put d u) w := by
 cases d with
 | none => exact h
 | some d => exact ⟨h.clk, h.tmps.put (by simpa [zc6] using hd) hv, h.hrel, h.marks⟩
theorem cell?_of_heap {w w' : World} {b : Nat} (h : w'.heap[b]? = w.heap[b]?) (i : Nat) : w'.cell? ⟨b, i, none⟩ = w.cell? ⟨b, i, none⟩ := by
 simp only [World.cell?, h]
theorem zi5 {w : World} {b i : Nat} {x : Value} (h : w.cell? ⟨b, i, none⟩ = some x) : b < w.heap.size := by
 simp only [World.cell?] at h;cases hb : w.heap[b]? with
 | none => rw [hb] at h; cases h
 | some o => exact (y0e.1 hb).1
theorem ORel.evo {w w' : World} {I I' : LI} {l : Loc} {o : AObj} (h : ORel w I l o) (e : Evo I w I' w')
  (hb : ∀ b base n, l = .at b base n -> w'.heap[b]? = w.heap[b]?) : ORel w' I' l o := by
 cases l with
 | void => cases o <;> exact h
 | «at» b base n =>
  have hb := hb b base n rfl;cases o with
  | cells cs =>
   obtain ⟨c, elem, h1, h2, h3, h4⟩ := h;exact ⟨c, elem, hb.trans h1, h2, h3, fun i x hx => (h4 i x hx).evo e⟩
  | loop st pe size tmps ps assign body df =>
   obtain ⟨r, h1, h2, h3, h4, h5, h6, h7, h8, h9⟩ := h;exact ⟨r, hb.trans h1, h2, h3, h4.evo e, h5, h6, h7, y09 h8 e.clk, fun b' base' n' hl => h9 b' base' n' (e.loc _ _ _ h8 hl)⟩
  | deferred => exact hb.trans h
  | map es =>
   obtain ⟨m, q, h1, h2, h3⟩ := h;exact ⟨m, q, hb.trans h1, h2, fun i k v hi => let ⟨x, a1, a2, a3⟩ := h3 i k v hi; ⟨x, a1, a2.evo e, a3.evo e⟩⟩
  | typed T full cs =>
   obtain ⟨h0, h5, c, h1, h2, h3, h4⟩ := h;exact ⟨h0, h5, c, hb.trans h1, h2, h3, fun i x hx => (h4 i x hx).evo e⟩
def LI.bind (I : LI) (id : Nat) (l : Loc) : LI :=
 { loc := fun i s => if i = id then (if s = I.clk then some l else none) else I.loc i s, clk := I.clk + 1, ok := I.ok }
theorem LI.bind_same (I : LI) (id : Nat) (l : Loc) : (I.bind id l).loc id I.clk = some l := by simp [LI.bind]
theorem LI.bind_some {I : LI} {id : Nat} {l : Loc} {i s : Nat} {x : Loc} (h : (I.bind id l).loc i s = some x) : (i = id /\ s = I.clk /\ x = l) \/ (i ≠ id /\ I.loc i s = some x) := by
 simp only [LI.bind] at h;by_cases hi : i = id
 ·rw [if_pos hi] at h;by_cases hs : s = I.clk
  ·rw [if_pos hs] at h; injection h with h; exact .inl ⟨hi, hs, h.symm⟩
  ·rw [if_neg hs] at h; cases h
 ·rw [if_neg hi] at h; exact .inr ⟨hi, h⟩
theorem HRel.bind {w0 w w' : World} {N0 next next' id : Nat} {I : LI} {hp : List (Nat × Nat × AObj)} {l : Loc} {o : AObj} (h : HRel w0 N0 I hp next w) (hbelow : Below N0 w w')
  (hold : ∀ b, b < w.heap.size -> (∀ st base n, I.loc id st ≠ some (.at b base n)) -> w'.heap[b]? = w.heap[b]?)
  (hl : ∀ b base n, l = .at b base n -> w.heap.size <= b \/ ∃ st base' n', I.loc id st = some (.at b base' n'))
  (ho : Evo I w (I.bind id l) w' -> ORel w' (I.bind id l) l o) (hn : next <= next') (hid : id < next') :
  HRel w0 N0 (I.bind id l) (zap id (I.clk, o) hp) next' w' /\ Evo I w (I.bind id l) w' := by
 have hE : Evo I w (I.bind id l) w' := by
  refine ⟨y0y _, fun i st x hs hx => ?_, fun b i x hro hc => ⟨⟨hro.1, fun i' st base n hx => ?_⟩, ?_⟩, rfl⟩
  ·rcases LI.bind_some hx with ⟨_, rfl, _⟩ | ⟨_, hx⟩
   ·omega
   ·exact hx
  ·rcases LI.bind_some hx with ⟨_, _, hxl⟩ | ⟨_, hx⟩
   ·rcases hl b base n hxl.symm with hge | ⟨st', base', n', hb'⟩
    ·have := zi5 hc; omega
    ·exact hro.2 _ _ _ _ hb'
   ·exact hro.2 _ _ _ _ hx
  ·rw [cell?_of_heap (hold b (zi5 hc) (fun st base n => hro.2 id st base n))];exact hc
 refine ⟨⟨h.below.trans hbelow, h.base, ?_, ?_, ?_, ?_, ?_, h.okN, h.glob.mono hE.ro⟩, hE⟩
 ·intro i st o' hi;rw [za0] at hi;by_cases hii : id = i
  ·subst hii;rw [if_pos rfl] at hi;injection hi with hi;injection hi with h1 h2;subst h1 h2;exact ⟨y07 _, l, LI.bind_same I id l, ho hE⟩
  ·rw [if_neg hii] at hi;obtain ⟨hs, l', hl', hol⟩ := h.heap i st o' hi;have hne : i ≠ id := fun e => hii e.symm;refine ⟨y15 hs, l', by simp [LI.bind, hne, hl'], hol.evo hE fun b base n hlb => ?_⟩;subst hlb;refine hold b ?_ fun st' base' n' hb' => hne (h.inj _ _ _ _ _ _ _ _ _ hl' hb');cases o' with
   | cells cs => obtain ⟨c, elem, h1, _⟩ := hol; exact (y0e.1 h1).1
   | loop => obtain ⟨c, h1, _⟩ := hol; exact (y0e.1 h1).1
   | deferred => exact (y0e.1 hol).1
   | map es => obtain ⟨c, elem, h1, _⟩ := hol; exact (y0e.1 h1).1
   | typed T full cs => obtain ⟨_, _, c, h1, _⟩ := hol; exact (y0e.1 h1).1
 ·intro i st x hx;rw [za0];rcases LI.bind_some hx with ⟨rfl, rfl, _⟩ | ⟨hne, hx⟩
  ·exact ⟨o, by rw [if_pos rfl]⟩
  ·obtain ⟨o', ho'⟩ := h.locs i st x hx;exact ⟨o', by rw [if_neg (fun e => hne e.symm)]; exact ho'⟩
 ·intro i st b base n i' st' base' n' h1 h2;have key : ∀ i st base n, I.loc i st = some (.at b base n) -> i ≠ id -> l = .at b base' n' \/ (∃ bs ns, l = .at b bs ns) -> False := by
   intro i st base n hi hne hl';have hlt : b < w.heap.size := by
    obtain ⟨o', ho'⟩ := h.locs i st _ hi;obtain ⟨_, l', hl'', hol⟩ := h.heap i st o' ho';rw [hi] at hl''; injection hl'' with hl''; subst hl'';cases o' with
    | cells cs => obtain ⟨c, elem, h1, _⟩ := hol; exact (y0e.1 h1).1
    | loop => obtain ⟨c, h1, _⟩ := hol; exact (y0e.1 h1).1
    | deferred => exact (y0e.1 hol).1
    | map es => obtain ⟨c, elem, h1, _⟩ := hol; exact (y0e.1 h1).1
    | typed T full cs => obtain ⟨_, _, c, h1, _⟩ := hol; exact (y0e.1 h1).1
   have hl2 : ∃ bs ns, l = .at b bs ns := by
    rcases hl' with h' | h'
    ·exact ⟨_, _, h'⟩
    ·exact h'
   obtain ⟨bs, ns, hl2⟩ := hl2;rcases hl b bs ns hl2 with hge | ⟨st', base', n', hb'⟩
   ·omega
   ·exact hne (h.inj _ _ _ _ _ _ _ _ _ hi hb')
  rcases LI.bind_some h1 with ⟨i1, _, e1⟩ | ⟨n1, k1⟩
  ·rcases LI.bind_some h2 with ⟨i2, _, e2⟩ | ⟨n2, k2⟩
   ·exact i1.trans i2.symm
   ·exact (key i' st' base' n' k2 n2 (.inr ⟨_, _, e1.symm⟩)).elim
  ·rcases LI.bind_some h2 with ⟨i2, _, e2⟩ | ⟨n2, k2⟩
   ·exact (key i st base n k1 n1 (.inr ⟨_, _, e2.symm⟩)).elim
   ·exact h.inj _ _ _ _ _ _ _ _ _ k1 k2
 ·intro i st b base n hx;rcases LI.bind_some hx with ⟨_, _, e⟩ | ⟨_, hx⟩
  ·rcases hl b base n e.symm with hge | ⟨st', base', n', hb'⟩
   ·exact y0u h.base (y0u h.below.size hge)
   ·exact h.fresh _ _ _ _ _ hb'
  ·exact h.fresh _ _ _ _ _ hx
 ·intro i hi;rw [za0, if_neg (by omega)];exact h.free i (by omega)
theorem HRel.write {w0 w w' : World} {N0 next id st : Nat} {I : LI} {hp : List (Nat × Nat × AObj)} {b base n : Nat} {o o' : AObj} (h : HRel w0 N0 I hp next w) (hbelow : Below N0 w w')
  (hloc : I.loc id st = some (.at b base n)) (hlook : look id hp = some (st, o)) (hold : ∀ b', b' ≠ b -> w'.heap[b']? = w.heap[b']?) (ho : Evo I w I w' -> ORel w' I (.at b base n) o') :
  HRel w0 N0 I (zap id (st, o') hp) next w' /\ Evo I w I w' := by
 have hE : Evo I w I w' := by
  refine ⟨y08 _, fun _ _ _ _ hx => hx, fun b' i x hro hc => ⟨hro, ?_⟩, rfl⟩;rw [cell?_of_heap (hold b' fun e => ?_)]
  ·exact hc
  ·subst e; exact hro.2 _ _ _ _ hloc
 refine ⟨⟨h.below.trans hbelow, h.base, ?_, ?_, h.inj, h.fresh, ?_, h.okN, h.glob.mono hE.ro⟩, hE⟩
 ·intro i st' o'' hi;rw [za0] at hi;by_cases hii : id = i
  ·subst hii;rw [if_pos rfl] at hi;injection hi with hi;injection hi with h1 h2;subst h1 h2;exact ⟨(h.heap _ _ _ hlook).1, _, hloc, ho hE⟩
  ·rw [if_neg hii] at hi;obtain ⟨hs, l', hl', hol⟩ := h.heap i st' o'' hi;refine ⟨hs, l', hl', hol.evo hE fun b2 base2 n2 hlb => hold b2 fun e => ?_⟩;subst hlb e;exact hii (h.inj _ _ _ _ _ _ _ _ _ hloc hl')
 ·intro i st' x hx;rw [za0];obtain ⟨o1, ho1⟩ := h.locs i st' x hx;by_cases hii : id = i
  ·subst hii;rw [hlook] at ho1;injection ho1 with ho1;injection ho1 with e1 e2;subst e1;exact ⟨o', by rw [if_pos rfl]⟩
  ·exact ⟨o1, by rw [if_neg hii]; exact ho1⟩
 ·intro i hi;have := h.free i hi;rw [za0];by_cases hii : id = i
  ·subst hii; rw [hlook] at this; cases this
  ·rw [if_neg hii]; exact this
def LI.drop (I : LI) (id : Nat) : LI := { loc := fun i s => if i = id then none else I.loc i s, clk := I.clk, ok := I.ok }
theorem LI.drop_some {I : LI} {id i s : Nat} {x : Loc} (h : (I.drop id).loc i s = some x) : i ≠ id /\ I.loc i s = some x := by
 simp only [LI.drop] at h;by_cases hi : i = id
 ·rw [if_pos hi] at h; cases h
 ·rw [if_neg hi] at h; exact ⟨hi, h⟩
theorem Evo.drop (I : LI) (w : World) (id : Nat) : Evo I w (I.drop id) w :=
 ⟨y08 _, fun _ _ _ _ h => (LI.drop_some h).2, fun _ _ _ hr hc => ⟨⟨hr.1, fun _ _ _ _ h => hr.2 _ _ _ _ (LI.drop_some h).2⟩, hc⟩, rfl⟩
theorem HRel.drop {w0 w : World} {N0 next : Nat} {I : LI} {hp : List (Nat × Nat × AObj)} (h : HRel w0 N0 I hp next w) (id : Nat) : HRel w0 N0 (I.drop id) (zbx id hp) next w := by
 refine ⟨h.below, h.base, ?_, ?_, ?_, ?_, ?_, h.okN, h.glob.mono (Evo.drop I w id).ro⟩
 ·intro i st o hi;rw [zac] at hi;by_cases hii : id = i
  ·rw [if_pos hii] at hi; cases hi
  ·rw [if_neg hii] at hi;obtain ⟨hs, l, hl, hol⟩ := h.heap i st o hi;have hne : i ≠ id := fun e => hii e.symm;exact ⟨hs, l, by simp [LI.drop, hne, hl], hol.evo (Evo.drop I w id) fun _ _ _ _ => rfl⟩
 ·intro i st l hl;obtain ⟨hne, hl⟩ := LI.drop_some hl;obtain ⟨o, ho⟩ := h.locs i st l hl;exact ⟨o, by rw [zac, if_neg (fun e => hne e.symm)]; exact ho⟩
 ·intro i st b base n i' st' base' n' h1 h2;exact h.inj _ _ _ _ _ _ _ _ _ (LI.drop_some h1).2 (LI.drop_some h2).2
 ·intro i st b base n h1;exact h.fresh _ _ _ _ _ (LI.drop_some h1).2
 ·intro i hi;rw [zac];split
  ·rfl
  ·exact h.free i hi
theorem HRel.next' {w0 w : World} {N0 next next' : Nat} {I : LI} {hp : List (Nat × Nat × AObj)} (h : HRel w0 N0 I hp next w) (hn : ∀ id, next' <= id -> look id hp = none) : HRel w0 N0 I hp next' w :=
 ⟨h.below, h.base, h.heap, h.locs, h.inj, h.fresh, hn, h.okN, h.glob⟩
theorem HRel.drew {w0 w : World} {N0 next : Nat} {I : LI} {hp : List (Nat × Nat × AObj)} (h : HRel w0 N0 I hp next w) : HRel w0 N0 I hp next w.drew /\ Evo I w I w.drew := by
 have hE : Evo I w I w.drew := ⟨y08 _, fun _ _ _ _ h => h, fun _ _ _ hr hc => ⟨hr, hc⟩, rfl⟩
 exact ⟨⟨h.below.drew, h.base, fun i st o hi => let ⟨a, l, b, c⟩ := h.heap i st o hi; ⟨a, l, b, c.evo hE fun _ _ _ _ => rfl⟩, h.locs, h.inj, h.fresh, h.free, h.okN, h.glob.mono hE.ro⟩, hE⟩
theorem HRel.congr {w0 w : World} {N0 next : Nat} {I : LI} {hp hp' : List (Nat × Nat × AObj)} (h : HRel w0 N0 I hp next w) (e : ∀ i, look i hp' = look i hp) : HRel w0 N0 I hp' next w :=
 ⟨h.below, h.base, fun i st o hi => h.heap i st o (by rw [<- e]; exact hi), fun i st l hl => by obtain ⟨o, ho⟩ := h.locs i st l hl; exact ⟨o, by rw [e]; exact ho⟩, h.inj, h.fresh, fun i hi => by rw [e]; exact h.free i hi, h.okN, h.glob⟩
theorem DRel.bind {I : LI} {hp : List (Nat × Nat × AObj)} {marks : List (Nat × Nat)} {ds : List Deferred} (h : DRel I hp marks ds) {id s : Nat} {o : AObj} {l : Loc} (hne : ∀ st, look id hp ≠ some (st, .deferred)) :
  DRel (I.bind id l) (zap id (s, o) hp) marks ds := by
 refine ⟨h.1, fun i id' st d h1 h2 => ?_, h.2.2⟩;obtain ⟨h3, b, base, n, h4, h5⟩ := h.2.1 i id' st d h1 h2;have hn : id ≠ id' := by intro e; subst e; exact hne st h3
 refine ⟨by rw [za0, if_neg hn]; exact h3, b, base, n, ?_, h5⟩;simp [LI.bind, h4];exact fun e => absurd e.symm hn
theorem DRel.write {I : LI} {hp : List (Nat × Nat × AObj)} {marks : List (Nat × Nat)} {ds : List Deferred} (h : DRel I hp marks ds) {id s : Nat} {o : AObj} (hne : ∀ st, look id hp ≠ some (st, .deferred)) :
  DRel I (zap id (s, o) hp) marks ds := by
 refine ⟨h.1, fun i id' st d h1 h2 => ?_, h.2.2⟩;obtain ⟨h3, b, base, n, h4, h5⟩ := h.2.1 i id' st d h1 h2;have hn : id ≠ id' := by intro e; subst e; exact hne st h3
 exact ⟨by rw [za0, if_neg hn]; exact h3, b, base, n, h4, h5⟩
theorem DRel.congr {I : LI} {hp hp' : List (Nat × Nat × AObj)} {marks : List (Nat × Nat)} {ds : List Deferred} (h : DRel I hp marks ds) (e : ∀ i, look i hp' = look i hp) : DRel I hp' marks ds :=
 ⟨h.1, fun i id' st d h1 h2 => by rw [e]; exact h.2.1 i id' st d h1 h2, h.2.2⟩
inductive Arg where
 | t (n : Nat)
 | c (v : AV)
inductive EqK where
 | int | bool | str
inductive IOp where
 | mov (a : Arg)
 | pick (c a b : Arg)
 | alloc (zero : List AV)
 | box (a : Arg)
 | build (zero : List AV) (parts : List (Nat × Nat × Arg))
 | bslice (sz len : Nat) (zero : List AV) (parts : List (Nat × Nat × Arg))
 | load (agg : Option Nat) (a : Arg)
 | store (size : Nat) (a v : Arg)
 | nilchk (a : Arg)
 | bin (op : BinOp) (x y : Arg)
 | eqb (neg : Bool) (x y : Arg)
 | eqs (neg : Bool) (fs : List (Nat × EqK)) (x y : Arg)
 | un (op : UnOp) (a : Arg)
 | conv (k : IntKind) (a : Arg)
 | rstr (a : Arg)
 | mkfn (f : FuncId) (first cap : List Arg)
 | mkslice (sz bytes : Nat) (zero : List AV) (l c : Arg)
 | slsl (sz : Nat) (x : Arg) (lo hi mx : Option Arg)
 | slarr (n sz : Nat) (x : Arg) (lo hi : Option Arg)
 | slstr (x : Arg) (lo hi : Option Arg)
 | faddr (off : Nat) (x : Arg)
 | field (off : Nat) (agg : Option Nat) (x : Arg)
 | idxs (sz : Nat) (x i : Arg)
 | idxarr (n sz : Nat) (x i : Arg)
 | idxagg (n sz : Nat) (agg : Bool) (x i : Arg)
 | idxstr (x i : Arg)
 | extract (x : Arg) (i : Nat)
 | len (str : Bool) (a : Arg)
 | lenc (n : Nat)
 | append (sz bytes : Nat) (zero : List AV) (s x : Arg)
 | appendz (sz bytes : Nat) (zero : List AV) (s n : Arg)
 | capo (a : Arg)
 | nilq (neg : Bool) (a : Arg)
 | mkmap
 | mapset (kd : EqK) (m k v : Arg)
 | mapget (kd : EqK) (z : AV) (ok : Bool) (m k : Arg)
 | copy (sz : Nat) (d s : Arg)
 | clear (sz : Nat) (z : List AV) (x : Arg)
 | minmax (isMax : Bool) (args : List Arg)
 | boxT (T : TypeId) (a : Arg)
 | peq (neg : Bool) (x y : Arg)
 | uptr (ok : List (TypeId × Nat)) (a : Arg)
 | sdata (a : Arg)
 | ustr (e : TypeId) (a n : Arg)
 | appendT (e : TypeId) (bytes : Nat) (s x : Arg)
 | call (f : Arg) (args : List Arg)
 | bad
structure Opr where
 dst : Option Nat
 op : IOp
 guard : Option (Nat × Bool)
inductive IC where
 | skip
 | region (ops : List Opr) (draw : Option (List (List Nat)))
 | seq (a b : IC)
 | cond (c : Arg) (thn els : IC)
 | block (id : Nat) (body : IC)
 | loop (body : IC)
 | rangeFunc (f : Arg) (params : List Nat) (ca cb : Code) (assign body : IC)
 | exit (id : Nat)
 | ret
 | refuse
def zc5 : Nat -> Value -> Option AV
 | 0, _ => none
 | _ + 1, .bool b => some (.bool b)
 | _ + 1, .int k n => some (.int k n)
 | _ + 1, .string s => some (.str s.data.toList)
 | _ + 1, .pointer none => some .nilp
 | _ + 1, .slice none 0 0 => some .nils
 | _ + 1, .nilFunc => some .nilf
 | _ + 1, .map none => some .top
 | d + 1, .agg cs => (cs.toList.mapM (zc5 d)).map .agg
 | d + 1, .tuple cs => (cs.toList.mapM (zc5 d)).map .tup
 | _ + 1, _ => none
def za1 : Operand -> Option Arg
 | .tmp t => some (.t t)
 | .const v => (zc5 4 v).map .c
 | .global g => (globC g GTAB).map fun cs => .c (.vptr cs)
 | .func f => some (.c (.fn f [] []))
def zpn : Option Operand -> Option (Option Arg)
 | none => some none
 | some x => (za1 x).map some
def zdt (P : Program) (t : TypeId) : Option (List AV) :=
 match P.info? t with
 | some i => match i.zero with
  | some z => z.cells.toList.mapM (zc5 4)
  | none => none
 | none => none
def ztl (P : Program) (t : TypeId) : Option AV :=
 match P.info? t with
 | some i => match i.zero with
  | some z => match zc5 4 z with
   | some .top => none
   | r => r
  | none => none
 | none => none
theorem zxo {P : Program} {t : TypeId} : ztl P t ≠ some .top := by
 intro h;unfold ztl at h;split at h
 ·split at h
  ·split at h
   ·cases h
   ·rename_i hn;exact hn h
  ·cases h
 ·cases h
def sizeOf? (P : Program) (t : TypeId) : Option Nat := (P.info? t).map (·.size)
def bytesOf? (P : Program) (t : TypeId) : Option Nat := (P.info? t).map (·.bytes)
def zhu (P : Program) (t : TypeId) : Option (Option Nat) :=
 match P.underlying t with
 | some (.struct _) | some (.array _ _) => (sizeOf? P t).map some
 | some _ => some none
 | none => none
def zdw (place : Nat -> Option (Nat × Nat)) : List (Nat × Operand) -> Option (List (Nat × Nat × Arg))
 | [] => some []
 | (i, x) :: l => match place i, za1 x, zdw place l with
  | some (off, size), some a, some r => some ((off, size, a) :: r)
  | _, _, _ => none
def zrx (P : Program) (fields : Array Field) : Option (List (Nat × Nat)) := fields.toList.mapM (fun f => (P.info? f.type).map fun i => (f.offset, i.size))
def zep (P : Program) (t : TypeId) : Option EqK :=
 match P.underlying t with
 | some (.int _) => some .int
 | some .bool => some .bool
 | some .string => some .str
 | _ => none
def zdz (P : Program) : List Field -> Option (List (Nat × EqK))
 | [] => some []
 | f :: l => if f.name = "_" then none else match zep P f.type, zdz P l with
  | some k, some r => some ((f.offset, k) :: r)
  | _, _ => none
def zjr (P : Program) (e : TypeId) (n : Nat) : Option (List (Nat × EqK)) :=
 match zep P e, sizeOf? P e with
 | some k, some s => some ((List.range n).map fun i => (i * s, k))
 | _, _ => none
def zeu (n : Nat) (z : List AV) : List AV := match n with
 | 0 => []
 | n + 1 => z ++ zeu n z
def zj9 (P : Program) : Nat -> TypeId -> Bool
 | 0, _ => false
 | d + 1, t => match P.underlying t with
  | some (.struct fs) => match fs[0]? with
   | some f => match P.underlying f.type with
    | some (.pointer u) => Nat.beq u t
    | _ => zj9 P d f.type
   | none => false
  | _ => false
def zxd (P : Program) (src dst : TypeId) : Option (List (TypeId × Nat)) :=
 match P.underlying src, P.underlying dst with
 | some (.pointer t), some .unsafePointer => match sizeOf? P t with
  | some n => if n = 0 then none else some (((List.range P.types.size).filter (zj9 P 3)).filterMap fun T => (sizeOf? P T).bind fun m => if 0 < m then some (T, m) else none)
  | none => none
 | some .unsafePointer, some (.pointer u) => match sizeOf? P u with
  | some _ => some (((List.range P.types.size).filter (zj9 P 3)).filterMap fun T => (sizeOf? P T).bind fun m => if liesAt P P.depth T (m / P.cellsOf T) 0 u 1 then some (T, m) else none)
  | none => none
 | _, _ => none
def zi3 (P : Program) (f : FuncId) : Bool :=
 match P.funcs[f]? with
 | some fn => fn.body.isNone && (fn.name == "internal/abi.NoEscape" && fn.origin == "")
 | none => false
def isU8 (P : Program) (e : TypeId) : Bool :=
 match P.underlying e with
 | some (.int .u8) => true
 | _ => false
def zbw (P : Program) (op : Op) : Option IOp :=
 match op with
 | .move x | .assign x => match x with
  | .const .nilIface => some (.mov (.c .top))
  | x => (za1 x).map .mov
 | .pick c a b => match za1 c, za1 a, za1 b with
  | some c, some a, some b => some (.pick c a b)
  | _, _, _ => none
 | .alloc t => (zdt P t).map .alloc
 | .box t x => if zj9 P 3 t then (za1 x).map (.boxT t) else (za1 x).map .box
 | .build t parts =>
  match P.underlying t with
  | some (.struct fs) => match zdt P t, zrx P fs with
   | some z, some pl => (zdw (pl.toArray[·]?) parts.toList).map (.build z)
   | _, _ => none
  | some (.array _ e) => match zdt P t, sizeOf? P e with
   | some z, some s => (zdw (fun i => some (i * s, s)) parts.toList).map (.build z)
   | _, _ => none
  | _ => none
 | .buildSlice t len parts =>
  match P.underlying t with
  | some (.slice e) => match sizeOf? P e, zdt P e with
   | some s, some z => if s = 0 \/ len * s > 16777216 \/ z.length ≠ s then none else (zdw (fun i => some (i * s, s)) parts.toList).map (.bslice s len (zeu len z))
   | _, _ => none
  | _ => none
 | .load t x => match zhu P t, za1 x with
  | some g, some x => some (.load g x)
  | _, _ => none
 | .store t x v => match sizeOf? P t, za1 x, za1 v with
  | some s, some x, some v => some (.store s x v)
  | _, _, _ => none
 | .nilCheck x => (za1 x).map .nilchk
 | .binOp op t x y _ =>
  match P.underlying t, za1 x, za1 y with
  | some .bool, some x, some y => match op with
   | .eql => some (.eqb false x y)
   | .neq => some (.eqb true x y)
   | _ => none
  | some (.int _), some x, some y => some (.bin op x y)
  | some .string, some x, some y => some (.bin op x y)
  | some (.struct fs), some x, some y =>
   if P.stoodInHeld t || P.eqGuardType P.depth t then none else
   match op, zdz P fs.toList with
   | .eql, some l => some (.eqs false l x y)
   | .neq, some l => some (.eqs true l x y)
   | _, _ => none
  | some (.array n e), some x, some y =>
   if P.eqGuardType P.depth t then none else
   match op, zjr P e n with
   | .eql, some l => some (.eqs false l x y)
   | .neq, some l => some (.eqs true l x y)
   | _, _ => none
  | some (.pointer e), some x, some y => match sizeOf? P e with
   | some _ => match op with
    | .eql => some (.peq false x y)
    | .neq => some (.peq true x y)
    | _ => none
   | none => none
  | some (.slice _), some x, some _ =>
   match op, y with
   | .eql, .const (.slice none 0 0) => some (.nilq false x)
   | .neq, .const (.slice none 0 0) => some (.nilq true x)
   | _, _ => none
  | _, _, _ => none
 | .unOp op _ x => (za1 x).map (.un op)
 | .convert src dst x =>
  match P.underlying src, P.underlying dst with
  | some (.int _), some (.int k) => (za1 x).map (.conv k)
  | some (.int _), some .string => (za1 x).map .rstr
  | some (.pointer _), some .unsafePointer | some .unsafePointer, some (.pointer _) => match zxd P src dst, za1 x with
   | some l, some x => some (.uptr l x)
   | _, _ => none
  | _, _ => none
 | .makeFunc (.func f) first cap => match first.toList.mapM za1, cap.toList.mapM za1 with
  | some x, some y => some (.mkfn f x y)
  | _, _ => none
 | .makeSlice t l c =>
  match P.underlying t with
  | some (.slice e) => match sizeOf? P e, zdt P e, bytesOf? P e, za1 l, za1 c with
   | some s, some z, some b, some l, some c => if s = 0 \/ z.length ≠ s \/ b > 16777216 then none else some (.mkslice s b z l c)
   | _, _, _, _, _ => none
  | _ => none
 | .slice t x lo hi' mx =>
  match za1 x, zpn lo, zpn hi' with
  | some x, some lo, some hi => match P.underlying t with
   | some (.slice e) => if mx.isSome = true /\ hi'.isSome = false then none else match sizeOf? P e, zpn mx with
    | some s, some mx => some (.slsl s x lo hi mx)
    | _, _ => none
   | some (.array n e) => if mx.isSome then none else (sizeOf? P e).map fun s => .slarr n s x lo hi
   | some .string => if mx.isSome then none else some (.slstr x lo hi)
   | _ => none
  | _, _, _ => none
 | .fieldAddr t x i =>
  match P.underlying t with
  | some (.struct fs) => match fs[i]? with
   | some f => match sizeOf? P f.type, za1 x with
    | some s, some x => if s = 0 then none else some (.faddr f.offset x)
    | _, _ => none
   | none => none
  | _ => none
 | .field t x i =>
  match P.underlying t with
  | some (.struct fs) => match fs[i]? with
   | some f => match zhu P f.type, za1 x with
    | some g, some x => some (.field f.offset g x)
    | _, _ => none
   | none => none
  | _ => none
 | .indexAddr t x i =>
  match P.underlying t with
  | some (.slice e) => match sizeOf? P e, za1 x, za1 i with
   | some s, some x, some i => some (.idxs s x i)
   | _, _, _ => none
  | some (.array n e) => match sizeOf? P e, za1 x, za1 i with
   | some s, some x, some i => some (.idxarr n s x i)
   | _, _, _ => none
  | _ => none
 | .index t x i =>
  match P.underlying t with
  | some (.array n e) => match sizeOf? P e, zhu P e, za1 x, za1 i with
   | some s, some g, some x, some i => some (.idxagg n s g.isSome x i)
   | _, _, _, _ => none
  | some .string => match za1 x, za1 i with
   | some x, some i => some (.idxstr x i)
   | _, _ => none
  | _ => none
 | .extract x i => (za1 x).map (.extract · i)
 | .makeMap _ r => match r with
  | none => some .mkmap
  | some _ => none
 | .mapUpdate t m k x =>
  match P.underlying t with
  | some (.map kt _) => match zep P kt, za1 m, za1 k, za1 x with
   | some kd, some m, some k, some x => some (.mapset kd m k x)
   | _, _, _, _ => none
  | _ => none
 | .lookup t m k ok =>
  match P.underlying t with
  | some (.map kt et) => match zep P kt, ztl P et, za1 m, za1 k with
   | some kd, some z, some m, some k => some (.mapget kd z ok m k)
   | _, _, _, _ => none
  | _ => none
 | .call c =>
  match c.callee with
  | .value f => match za1 f, c.args.toList.mapM za1 with
   | some f, some l => match f, l with
    | .c (.fn g [] []), [x] => if zi3 P g then some (.mov x) else some (.call (.c (.fn g [] [])) [x])
    | f, l => some (.call f l)
   | _, _ => none
  | .builtin .len =>
   match c.argTypes[0]?, c.args[0]? with
   | some t, some x =>
    match P.underlying t with
    | some .string => (za1 x).map (.len true)
    | some (.slice _) => (za1 x).map (.len false)
    | some (.array n _) => some (.lenc n)
    | some (.map _ _) => (za1 x).map fun a => .mapget .int .top false a (.c (.int .i64 0))
    | _ => none
   | _, _ => none
  | .builtin .append =>
   match c.argTypes[0]?, c.argTypes[1]?, c.args[0]?, c.args[1]? with
   | some t, some t2, some s, some x =>
    match P.underlying t, P.underlying t2 with
    | some (.slice e), some (.slice _) => match sizeOf? P e, zdt P e, bytesOf? P e, za1 s, za1 x with
     | some sz, some z, some b, some s, some x => if sz = 0 \/ z.length ≠ sz \/ b > 16777216 \/ b = 0 then none else if isU8 P e && sz == 1 then some (.appendT e b s x) else some (.append sz b z s x)
     | _, _, _, _, _ => none
    | some (.slice e), some .string => match sizeOf? P e, zdt P e, bytesOf? P e, za1 s, za1 x with
     | some sz, some z, some b, some s, some x => if sz ≠ 1 \/ z.length ≠ sz \/ b > 16777216 \/ b = 0 then none else some (.appendT e b s x)
     | _, _, _, _, _ => none
    | some (.slice e), some (.int _) => match sizeOf? P e, zdt P e, bytesOf? P e, za1 s, za1 x with
     | some sz, some z, some b, some s, some x => if sz = 0 \/ z.length ≠ sz \/ b > 16777216 \/ b = 0 then none else some (.appendz sz b z s x)
     | _, _, _, _, _ => none
    | _, _ => none
   | _, _, _, _ => none
  | .builtin .cap =>
   match c.argTypes[0]?, c.args[0]? with
   | some t, some x =>
    match P.underlying t with
    | some (.slice _) => (za1 x).map .capo
    | _ => none
   | _, _ => none
  | .builtin .copy =>
   match c.argTypes[0]?, c.args[0]?, c.args[1]? with
   | some t, some d, some s =>
    match P.underlying t with
    | some (.slice e) => match sizeOf? P e, za1 d, za1 s with
     | some z, some d, some s => some (.copy z d s)
     | _, _, _ => none
    | _ => none
   | _, _, _ => none
  | .builtin .clear =>
   match c.argTypes[0]?, c.args[0]? with
   | some t, some x =>
    match P.underlying t with
    | some (.slice e) => match sizeOf? P e, zdt P e, za1 x with
     | some sz, some z, some x => some (.clear sz z x)
     | _, _, _ => none
    | _ => none
   | _, _ => none
  | .builtin .unsafeSliceData => match c.args.toList with
   | [x] => (za1 x).map .sdata
   | _ => none
  | .builtin .unsafeString =>
   match c.argTypes[0]?, c.args.toList with
   | some t, [x, n] => match P.underlying t with
    | some (.pointer e) => match sizeOf? P e, za1 x, za1 n with
     | some s, some x, some n => if s = 1 then some (.ustr e x n) else none
     | _, _, _ => none
    | _ => none
   | _, _ => none
  | .builtin .min => (c.args.toList.mapM za1).map (.minmax false)
  | .builtin .max => (c.args.toList.mapM za1).map (.minmax true)
  | _ => none
 | _ => none
def opOf (P : Program) (op : Op) : IOp :=
 match zbw P op with
 | some x => x
 | none => .bad
def zdh (P : Program) (ops : Array Oper) (o : Oper) : Option Opr :=
 match o.guard with
 | none => some ⟨o.dst, opOf P o.op, none⟩
 | some (g, b) => match (ops[g]?).bind (·.dst) with
  | some d => some ⟨o.dst, opOf P o.op, some (d, b)⟩
  | none => none
def zej (ops : Array Oper) : List (List Nat) := ops.toList.map fun o => (o.after.toList.filter (Region.binds .any ·)).map (·.on)
def zh5 (P : Program) : Code -> Option IC
 | .skip => some .skip
 | .label _ => some .skip
 | .region _ ops draw => (ops.toList.mapM (zdh P ops)).map (.region · (if draw then some (zej ops) else none))
 | .seq a b => match zh5 P a, zh5 P b with
  | some a, some b => some (.seq a b)
  | _, _ => none
 | .cond c a b => match za1 c, zh5 P a, zh5 P b with
  | some c, some a, some b => some (.cond c a b)
  | _, _, _ => none
 | .block id b => (zh5 P b).map (.block id)
 | .loop b => (zh5 P b).map .loop
 | .rangeFunc f ps ca cb => match za1 f, zh5 P ca, zh5 P cb with
  | some f, some a, some b => some (.rangeFunc f ps.toList ca cb a b)
  | _, _, _ => none
 | .exit id => some (.exit id)
 | .scope _ => none
 | .ret => some .ret
 | .refuse _ => some .refuse
 | .goto _ => none
def AS.arg (S : AS) : Arg -> Option AV
 | .t n => S.get n
 | .c v => some v
def AS.args (S : AS) : List Arg -> Option (List AV)
 | [] => some []
 | a :: l => match S.arg a, S.args l with
  | some v, some vs => some (v :: vs)
  | _, _ => none
def AV.cells? : AV -> Option (List AV)
 | .top => none
 | .tup _ => none
 | .agg cs => some cs
 | v => some [v]
def AV.isCell : AV -> Bool
 | .top | .tup _ | .agg _ => false
 | _ => true
def AS.new (S : AS) (o : AObj) : AS := { S with heap := (S.next, S.clk, o) :: S.heap, next := S.next + 1, clk := S.clk + 1 }
def setAt {α : Type} (i : Nat) (xs vs : List α) : List α := xs.take i ++ vs ++ xs.drop (i + vs.length)
def zbe : List AV -> List (Nat × AV) -> Option (List AV)
 | cs, [] => some cs
 | cs, (off, v) :: l => match v.cells? with
  | some vs => if off + vs.length <= cs.length then zbe (setAt off cs vs) l else none
  | none => none
def AS.parts (S : AS) : List (Nat × Nat × Arg) -> Option (List (Nat × AV))
 | [] => some []
 | (off, size, a) :: l => match S.arg a, S.parts l with
  | some v, some r => match v.cells? with
   | some vs => if vs.length = size then some ((off, v) :: r) else none
   | none => none
  | _, _ => none
def AS.deref (S : AS) : AV -> Option (List AV)
 | .vptr cs => some cs
 | .mptr id st off => match look id S.heap with
  | some (st', .cells cs) => if st' = st /\ id < S.next then some (cs.drop off) else none
  | some (st', .typed _ _ cs) => if st' = st /\ id < S.next then some (cs.drop off) else none
  | _ => none
 | _ => none
def AS.store (S : AS) (p : AV) (vs : List AV) : Option AS :=
 match p with
 | .mptr id st off => match look id S.heap with
  | some (st', .cells cs) =>
   if st' = st /\ off + vs.length <= cs.length /\ vs.all AV.isCell = true then some { S with heap := zap id (st, .cells (setAt off cs vs)) S.heap } else none
  | some (st', .typed T full cs) =>
   if st' = st /\ off + vs.length <= cs.length /\ vs.all AV.isCell = true then some { S with heap := zap id (st, .typed T full (setAt off cs vs)) S.heap } else none
  | _ => none
 | _ => none
def zcf (op : BinOp) (k : IntKind) (a b : Int) : Option AV :=
 match op with
 | .add => some (.int k (k.wrap (a + b)))
 | .sub => some (.int k (k.wrap (a - b)))
 | .mul => some (.int k (k.wrap (a * b)))
 | .quo => if b = 0 then none else some (.int k (k.wrap (a.tdiv b)))
 | .rem => if b = 0 then none else some (.int k (a.tmod b))
 | .and => some (.int k (k.wrap (BitVec.ofInt k.bits a &&& BitVec.ofInt k.bits b).toNat))
 | .or => some (.int k (k.wrap (BitVec.ofInt k.bits a ||| BitVec.ofInt k.bits b).toNat))
 | .xor => some (.int k (k.wrap (BitVec.ofInt k.bits a ^^^ BitVec.ofInt k.bits b).toNat))
 | .andNot => some (.int k (k.wrap (BitVec.ofInt k.bits a &&& ~~~ BitVec.ofInt k.bits b).toNat))
 | .shl => none
 | .shr => none
 | .eql => some (.bool (a == b))
 | .neq => some (.bool (a != b))
 | .lss => some (.bool (decide (a < b)))
 | .leq => some (.bool (decide (a <= b)))
 | .gtr => some (.bool (decide (a > b)))
 | .geq => some (.bool (decide (a >= b)))
def ziy (op : BinOp) (k : IntKind) (a b : Int) : Option AV :=
 if b < 0 then none else
 match op with
 | .shl => some (.int k (k.wrap (a * 2 ^ (min b.toNat k.bits))))
 | .shr => some (.int k (a.fdiv (2 ^ (min b.toNat k.bits))))
 | _ => none
def zle (op : BinOp) (x y : List UInt8) : Option AV :=
 match op with
 | .add => if x.length + y.length <= 1048576 then some (.str (x ++ y)) else none
 | .eql => some (.bool (x == y))
 | .neq => some (.bool (!(x == y)))
 | .lss => some (.bool (Op.bytesLess x y))
 | .leq => some (.bool (Op.bytesLess x y || x == y))
 | .gtr => some (.bool (!(Op.bytesLess x y || x == y)))
 | .geq => some (.bool (!(Op.bytesLess x y)))
 | _ => none
def cmpR (op : BinOp) (lo hi lo' hi' : Int) : Option Bool :=
 match op with
 | .lss => if hi < lo' then some true else if hi' <= lo then some false else none
 | .leq => if hi <= lo' then some true else if hi' < lo then some false else none
 | .gtr => if hi' < lo then some true else if hi <= lo' then some false else none
 | .geq => if hi' <= lo then some true else if hi < lo' then some false else none
 | .eql => if hi < lo' \/ hi' < lo then some false else none
 | .neq => if hi < lo' \/ hi' < lo then some true else none
 | _ => none
def zwn (op : BinOp) (l : List Int) (b : Int) : Option Int :=
 match op with
 | .rem => match l with
  | a :: _ => if b = 0 then none else if l.all (fun x => x.tmod b == a.tmod b) then some (a.tmod b) else none
  | [] => none
 | _ => none
def eqA (op : BinOp) (no : List (List UInt8)) (lo hi : Nat) (s : List UInt8) : Option Bool :=
 if s ∈ no \/ s.length < lo \/ hi < s.length then
  match op with
  | .eql => some false
  | .neq => some true
  | _ => none
 else none
def zue (op : BinOp) (x y : AV) : Option AV :=
 match x, y with
 | .rng k lo hi, .int k' b => if k = k' then (cmpR op lo hi b b).map .bool else none
 | .int k a, .rng k' lo hi => if k = k' then (cmpR op a a lo hi).map .bool else none
 | .ints k l, .int k' b => if k = k' then (zwn op l b).map (.int k) else none
 | .strA no lo hi, .str s => (eqA op no lo hi s).map .bool
 | .str s, .strA no lo hi => (eqA op no lo hi s).map .bool
 | _, _ => none
def binOp (op : BinOp) (x y : AV) : Option AV :=
 match x, y with
 | .int k a, .int k' b =>
  match op with
  | .shl => ziy .shl k a b
  | .shr => ziy .shr k a b
  | op => if k = k' then zcf op k a b else none
 | .str a, .str b => zle op a b
 | x, y => zue op x y
def eqK : EqK -> AV -> AV -> Option Bool
 | .int, .int k a, .int k' b => if k = k' then some (a == b) else none
 | .bool, .bool a, .bool b => some (a == b)
 | .str, .str a, .str b => some (a == b)
 | _, _, _ => none
def eqFs (xs ys : List AV) : List (Nat × EqK) -> Option Bool
 | [] => some true
 | (o, k) :: l => match xs[o]?, ys[o]? with
  | some x, some y => match eqK k x y, eqFs xs ys l with
   | some a, some b => some (a && b)
   | _, _ => none
  | _, _ => none
def unOp : UnOp -> AV -> Option AV
 | .neg, .int k n => some (.int k (k.wrap (0 - n)))
 | .xor, .int k n => some (.int k (k.wrap (BitVec.ofInt k.bits (if k.signed then -1 else k.max) ^^^ BitVec.ofInt k.bits n).toNat))
 | .not, .bool b => some (.bool !b)
 | _, _ => none
def zdg (sz : Nat) : Nat -> List AV -> List (List AV)
 | 0, _ => []
 | n + 1, l => l.take sz :: zdg sz n (l.drop sz)
def zdc : Option AV -> Int -> Option Int
 | none, d => some d
 | some (.int _ n), _ => some n
 | some _, _ => none
def AS.oarg (S : AS) : Option Arg -> Option (Option AV)
 | none => some none
 | some a => (S.arg a).map some
def AS.elems (S : AS) (sz : Nat) : AV -> Option (List (List AV))
 | .nils => some []
 | .vs es => if es.all (·.length == sz) then some es else none
 | .ms id st sz' off len _ => match look id S.heap with
  | some (st', .cells cs) => if st' = st /\ sz' = sz /\ off + len * sz <= cs.length then some (zdg sz len (cs.drop off)) else none
  | _ => none
 | _ => none
def lenOf : Bool -> AV -> Option Nat
 | false, .nils => some 0
 | false, .vs es => some es.length
 | false, .ms _ _ _ _ len _ => some len
 | true, .str s => some s.length
 | _, _ => none
def lenA (b : Bool) (v : AV) : Option AV :=
 match v with
 | .strA _ lo hi => if b then some (.rng .i64 lo hi) else none
 | v => (lenOf b v).map fun (n : Nat) => AV.int .i64 (n : Int)
theorem zsz {v r : AV} (h : lenA false v = some r) : ∃ n : Nat, lenOf false v = some n /\ AV.int .i64 (n : Int) = r := by
 unfold lenA at h;split at h
 ·simp at h
 ·simpa only [y03] using h
def zsu (k : IntKind) (v : AV) : Option AV :=
 match v with
 | .int _ n => some (.int k (k.wrap n))
 | .ints _ l => some (.ints k (l.map k.wrap))
 | _ => none
def zx0 (sz : Nat) (x : AV) (lo hi mx : Option AV) : Option AV :=
 match x with
 | .nils => match zdc lo 0, zdc hi 0, zdc mx 0 with
  | some l, some h, some m => if l = 0 /\ h = 0 /\ m = 0 then some .nils else none
  | _, _, _ => none
 | .vs es => match zdc lo 0, zdc hi es.length with
  | some l, some h => match mx with
   | none => if 0 <= l /\ l <= h /\ h <= es.length /\ es.all (·.length == sz) = true then some (.vs ((es.drop l.toNat).take (h.toNat - l.toNat))) else none
   | some (.int _ m) => if l = 0 /\ h = 0 /\ m = 0 then some .nils else none
   | some _ => none
  | _, _ => none
 | .ms id st sz' off len cap => match zdc lo 0, zdc hi len with
  | some l, some h => match mx with
   | none => if sz' = sz /\ 0 <= l /\ l <= h /\ h <= len then some (.ms id st sz (off + l.toNat * sz) (h.toNat - l.toNat) (cap.map (· - l.toNat))) else none
   | some (.int _ m) => if l = 0 /\ h = 0 /\ m = 0 then some .nils else none
   | some _ => none
  | _, _ => none
 | _ => none
def zdx (kd : EqK) (k : AV) : List (AV × AV) -> Option (Option AV)
 | [] => some none
 | (k', v) :: es => match eqK kd k k' with
  | some true => some (some v)
  | some false => zdx kd k es
  | none => none
def zdy (kd : EqK) (k v : AV) : List (AV × AV) -> Option (List (AV × AV))
 | [] => some [(k, v)]
 | (k', v') :: es => match eqK kd k k' with
  | some true => some ((k, v) :: es)
  | some false => (zdy kd k v es).map ((k', v') :: ·)
  | none => none
def zmy (ok : Bool) (z : AV) : Option AV -> AV
 | some v => if ok then .tup [v, .bool true] else v
 | none => if ok then .tup [z, .bool false] else z
def AS.mapset (S : AS) (kd : EqK) (m k v : AV) : Option AS :=
 match m with
 | .mapv id st => match look id S.heap with
  | some (st', .map es) => if st' = st then (zdy kd k v es).map fun es' => { S with heap := zap id (st, .map es') S.heap } else none
  | _ => none
 | _ => none
def AS.mapget (S : AS) (kd : EqK) (z : AV) (ok : Bool) (m k : AV) : Option AV :=
 match m with
 | .mapv id st => match look id S.heap with
  | some (st', .map es) => if st' = st then (match z with
   | .top => some (.int .i64 (es.length : Nat))
   | z => (zdx kd k es).map (zmy ok z)) else none
  | _ => none
 | _ => none
def capOf : AV -> Option Nat
 | .nils => some 0
 | .ms _ _ _ _ _ (some k) => some k
 | _ => none
def zuz (n : Nat) (l : List AV) : List AV := if l.length = n then l else l.take n
theorem ziz (n : Nat) (l : List AV) : zuz n l = l.take n := by
 unfold zuz;split
 ·rename_i h; rw [<- h, y1t]
 ·rfl
def zf3 (S : AS) (sz bytes : Nat) (z : List AV) (sv : AV) (n : Int) : Option (AV × AS) :=
 match sv with
 | .nils => if 0 < n /\ n <= 1048576 /\ bytes <= 16777216 then some (.ms S.next S.clk sz 0 n.toNat none, S.new (.cells (zeu n.toNat z))) else none
 | _ => none
def zbv (S : AS) (sz bytes : Nat) (sv : AV) (es : List (List AV)) : Option (AV × AS) :=
 if es.length = 0 then
  match sv with
  | .nils => some (.nils, S)
  | .vs l => some (.vs l, S)
  | .ms id st sz' off len cap => some (.ms id st sz' off len cap, S)
  | _ => none
 else if es.flatten.all AV.isCell = true /\ bytes <= 16777216 then
  match sv with
  | .nils => if es.length <= 1048576 then some (.ms S.next S.clk sz 0 es.length none, S.new (.cells es.flatten)) else none
  | .ms id st sz' off len cap => match look id S.heap with
   | some (st', .cells cs) =>
    if st' = st /\ sz' = sz /\ off + len * sz <= cs.length /\ len + es.length <= 1048576 then
     match cap with
     | some k =>
      if len + es.length <= k then
       (if off + (len + es.length) * sz <= cs.length then some (.ms id st sz off (len + es.length) (some k), { S with heap := zap id (st, .cells (setAt (off + len * sz) cs es.flatten)) S.heap }) else none)
      else some (.ms S.next S.clk sz 0 (len + es.length) none, S.new (.cells ((cs.drop off).take (len * sz) ++ es.flatten)))
     | none =>
      some (.ms id S.clk sz 0 (len + es.length) none, { S with heap := zap id (S.clk, .cells (zuz (len * sz) (cs.drop off) ++ es.flatten)) S.heap, clk := S.clk + 1 })
    else none
   | _ => none
  | _ => none
 else none
def AS.bytesIn (S : AS) : AV -> Option (List (List AV))
 | .str s => some (s.map fun b => [.int .u8 b.toNat])
 | v => S.elems 1 v
def appendT (S : AS) (T : TypeId) (bytes : Nat) (sv : AV) (es : List (List AV)) : Option (AV × AS) :=
 if es.length = 0 then none
 else if es.flatten.all AV.isCell = true /\ bytes <= 16777216 then
  match sv with
  | .nils => if es.length <= 1048576 then some (.ms S.next S.clk 1 0 es.length none, S.new (.typed T false es.flatten)) else none
  | .ms id st sz' off len none => match look id S.heap with
   | some (st', .typed T' false cs) =>
    if st' = st /\ sz' = 1 /\ off = 0 /\ T' = T /\ len <= cs.length /\ len + es.length <= 1048576 then
     some (.ms id S.clk 1 0 (len + es.length) none, { S with heap := zap id (S.clk, .typed T false (zuz len cs ++ es.flatten)) S.heap, clk := S.clk + 1 })
    else none
   | _ => none
  | _ => none
 else none
def AS.peq (S : AS) : AV -> AV -> Option Bool
 | .nilp, .nilp => some true
 | .nilp, .mptr .. => some false
 | .mptr .., .nilp => some false
 | .mptr id st off, .mptr id' st' off' => if id = id' /\ st = st' /\ off = off' then match look id S.heap with
   | some (st2, .typed ..) => if st2 = st then some true else none
   | _ => none
  else none
 | _, _ => none
def zjj : List AV -> Option (List UInt8)
 | [] => some []
 | .int .u8 n :: l => if 0 <= n /\ n < 256 then (zjj l).map (n.toNat.toUInt8 :: ·) else none
 | _ :: _ => none
def iop (S : AS) : IOp -> Option (AV × AS)
 | .mov a => (S.arg a).map (·, S)
 | .pick c a b => match S.arg c with
  | some (.bool t) => (if t then S.arg a else S.arg b).map (·, S)
  | _ => none
 | .alloc z => some (.mptr S.next S.clk 0, S.new (.cells z))
 | .box a => match S.arg a with
  | some v => match v.cells? with
   | some cs => some (.mptr S.next S.clk 0, S.new (.cells cs))
   | none => none
  | none => none
 | .build z ps => match S.parts ps with
  | some l => match zbe z l with
   | some cs => some (.agg cs, S)
   | none => none
  | none => none
 | .bslice sz len z ps => match S.parts ps with
  | some l => match zbe z l with
   | some cs => some (.ms S.next S.clk sz 0 len (some len), S.new (.cells cs))
   | none => none
  | none => none
 | .load agg a => match S.arg a with
  | some p => match S.deref p with
   | some cs => match agg with
    | some n => if n <= cs.length then some (.agg (cs.take n), S) else none
    | none => match cs with
     | x :: _ => some (x, S)
     | [] => none
   | none => none
  | none => none
 | .store size a v => match S.arg a, S.arg v with
  | some p, some v => match v.cells? with
   | some vs => if vs.length = size then (S.store p vs).map (.tup [], ·) else none
   | none => none
  | _, _ => none
 | .nilchk a => match S.arg a with
  | some (.vptr cs) => some (.vptr cs, S)
  | some (.mptr id st off) => some (.mptr id st off, S)
  | some (.fn f a b) => some (.fn f a b, S)
  | _ => none
 | .bin op x y => match S.arg x, S.arg y with
  | some a, some b => (binOp op a b).map (·, S)
  | _, _ => none
 | .eqb neg x y => match S.arg x, S.arg y with
  | some (.bool a), some (.bool b) => some (.bool (if neg then !(a == b) else a == b), S)
  | _, _ => none
 | .eqs neg fs x y => match S.arg x, S.arg y with
  | some (.agg a), some (.agg b) => match eqFs a b fs with
   | some r => some (.bool (if neg then !r else r), S)
   | none => none
  | _, _ => none
 | .un op a => match S.arg a with
  | some v => (unOp op v).map (·, S)
  | none => none
 | .conv k a => match S.arg a with
  | some v => (zsu k v).map (·, S)
  | none => none
 | .rstr a => match S.arg a with
  | some (.int _ n) => if 0 <= n /\ n <= 127 then some (.str [UInt8.ofNat n.toNat], S) else none
  | _ => none
 | .mkfn f first cap => match S.args first, S.args cap with
  | some a, some b => some (.fn f a b, S)
  | _, _ => none
 | .mkslice sz bytes z l c => match S.arg l, S.arg c with
  | some (.int _ l), some (.int _ c) =>
   if 0 <= l /\ l <= c /\ c <= 1048576 /\ bytes <= 16777216 then some (.ms S.next S.clk sz 0 l.toNat (some c.toNat), S.new (.cells (zeu c.toNat z))) else none
  | _, _ => none
 | .slsl sz x lo hi mx => match S.arg x, S.oarg lo, S.oarg hi, S.oarg mx with
  | some v, some lo, some hi, some mx => (zx0 sz v lo hi mx).map (·, S)
  | _, _, _, _ => none
 | .slarr n sz x lo hi => match S.arg x, S.oarg lo, S.oarg hi with
  | some (.mptr id st off), some lo, some hi => match zdc lo 0, zdc hi n with
   | some l, some h => if 0 <= l /\ l <= h /\ h <= n then some (.ms id st sz (off + l.toNat * sz) (h.toNat - l.toNat) (some (n - l.toNat)), S) else none
   | _, _ => none
  | _, _, _ => none
 | .slstr x lo hi => match S.arg x, S.oarg lo, S.oarg hi with
  | some (.str s), some lo, some hi => match zdc lo 0, zdc hi s.length with
   | some l, some h => if 0 <= l /\ l <= h /\ h <= s.length then some (.str ((s.drop l.toNat).take (h.toNat - l.toNat)), S) else none
   | _, _ => none
  | _, _, _ => none
 | .faddr off x => match S.arg x with
  | some (.vptr cs) => if off <= cs.length then some (.vptr (cs.drop off), S) else none
  | some (.mptr id st o) => some (.mptr id st (o + off), S)
  | _ => none
 | .field off agg x => match S.arg x with
  | some (.agg cs) => match agg with
   | some n => if off + n <= cs.length then some (.agg ((cs.drop off).take n), S) else none
   | none => (cs[off]?).map (·, S)
  | _ => none
 | .idxs sz x i => match S.arg x, S.arg i with
  | some (.vs es), some (.int _ n) => if 0 <= n /\ n < es.length then match es[n.toNat]? with
    | some e => if e.length = sz then some (.vptr e, S) else none
    | none => none
   else none
  | some (.ms id st sz' off len _), some (.int _ n) => if sz' = sz /\ 0 <= n /\ n < len then some (.mptr id st (off + n.toNat * sz), S) else none
  | _, _ => none
 | .idxarr n sz x i => match S.arg x, S.arg i with
  | some (.vptr cs), some (.int _ k) => if 0 <= k /\ k < n /\ k.toNat * sz <= cs.length then some (.vptr (cs.drop (k.toNat * sz)), S) else none
  | some (.mptr id st off), some (.int _ k) => if 0 <= k /\ k < n then some (.mptr id st (off + k.toNat * sz), S) else none
  | _, _ => none
 | .idxagg n sz agg x i => match S.arg x, S.arg i with
  | some (.agg cs), some (.int _ k) =>
   if 0 <= k /\ k < n /\ k.toNat * sz + sz <= cs.length then
    (if agg then some (.agg ((cs.drop (k.toNat * sz)).take sz), S) else (cs[k.toNat * sz]?).map (·, S))
   else none
  | _, _ => none
 | .idxstr x i => match S.arg x, S.arg i with
  | some (.str s), some (.int _ k) => if 0 <= k then match s[k.toNat]? with
    | some b => some (.int .u8 b.toNat, S)
    | none => none
   else none
  | _, _ => none
 | .extract x i => match S.arg x with
  | some (.tup vs) => (vs[i]?).map (·, S)
  | _ => none
 | .len b a => match S.arg a with
  | some v => (lenA b v).map (·, S)
  | none => none
 | .lenc n => some (.int .i64 n, S)
 | .append sz bytes _ s x => match S.arg s, S.arg x with
  | some sv, some xv => match S.elems sz xv with
   | some es => zbv S sz bytes sv es
   | none => none
  | _, _ => none
 | .appendz sz bytes z s n => match S.arg s, S.arg n with
  | some sv, some (.int _ n) => zf3 S sz bytes z sv n
  | _, _ => none
 | .capo a => match S.arg a with
  | some v => match capOf v with
   | some n => some (.int .i64 (n : Int), S)
   | none => none
  | none => none
 | .nilq neg a => match S.arg a with
  | some (.vs (_ :: _)) => some (.bool neg, S)
  | some (.ms _ _ _ _ (_ + 1) _) => some (.bool neg, S)
  | _ => none
 | .mkmap => some (.mapv S.next S.clk, S.new (.map []))
 | .mapset kd m k v => match S.arg m, S.arg k, S.arg v with
  | some m, some k, some v => (S.mapset kd m k v).map (.tup [], ·)
  | _, _, _ => none
 | .mapget kd z ok m k => match S.arg m, S.arg k with
  | some m, some k => (S.mapget kd z ok m k).map (·, S)
  | _, _ => none
 | .copy sz d s => match S.arg d, S.arg s with
  | some (.ms id st sz' off len _), some sv => match S.elems sz sv, look id S.heap with
   | some es, some (st', .cells cs) =>
    let new := (es.take len).flatten
    if st' = st /\ sz' = sz /\ off + len * sz <= cs.length /\ new.all AV.isCell = true then
     some (.int .i64 (min es.length len : Nat), { S with heap := zap id (st, .cells (setAt off cs new)) S.heap })
    else none
   | _, _ => none
  | _, _ => none
 | .clear sz z x => match S.arg x with
  | some (.ms id st sz' off len _) => match look id S.heap with
   | some (st', .cells cs) =>
    if st' = st /\ sz' = sz /\ off + len * sz <= cs.length /\ z.length = sz /\ 0 < sz /\ z.all AV.isCell = true then
     some (.tup [], { S with heap := zap id (st, .cells (setAt off cs (zeu len z))) S.heap })
    else none
   | _ => none
  | _ => none
 | .minmax mx args => match S.args args with
  | some (.int k a :: l) => (l.foldlM (m := Option) (init := a) fun acc v => match v with
    | .int k' b => if k = k' then some (if mx then (if b > acc then b else acc) else (if b < acc then b else acc)) else none
    | _ => none).map fun n => (.int k n, S)
  | _ => none
 | .boxT T a => match S.arg a with
  | some v => match v.cells? with
   | some cs => some (.mptr S.next S.clk 0, S.new (.typed T true cs))
   | none => none
  | none => none
 | .peq neg x y => match S.arg x, S.arg y with
  | some a, some b => match S.peq a b with
   | some r => some (.bool (if neg then !r else r), S)
   | none => none
  | _, _ => none
 | .uptr ok a => match S.arg a with
  | some (.mptr id st 0) => match look id S.heap with
   | some (st', .typed T true cs) => if st' = st /\ ok.elem (T, cs.length) = true then some (.mptr id st 0, S) else none
   | _ => none
  | _ => none
 | .sdata a => match S.arg a with
  | some (.ms id st 1 0 (_ + 1) _) => some (.mptr id st 0, S)
  | _ => none
 | .ustr e a n => match S.arg a, S.arg n with
  | some (.mptr id st 0), some (.int .i64 n) => match look id S.heap with
   | some (st', .typed T _ cs) =>
    if st' = st /\ T = e /\ 0 < n /\ n <= cs.length /\ n <= 1048576 then match zjj (cs.take n.toNat) with
     | some bs => some (.str bs, { S with heap := zbx id S.heap })
     | none => none
    else none
   | _ => none
  | _, _ => none
 | .appendT e bytes s x => match S.arg s, S.arg x with
  | some sv, some xv => match S.bytesIn xv with
   | some es => appendT S e bytes sv es
   | none => none
  | _, _ => none
 | .call _ _ => none
 | .bad => none
theorem zgb {α β : Type} {f : α -> Option β} : ∀ {l : List α} {r : List β}, l.mapM f = some r -> r.length = l.length /\ ∀ (i : Nat) (x : β), r[i]? = some x -> ∃ y, l[i]? = some y /\ f y = some x
 | [], r, h => by simp at h; subst h; simp
 | a :: l, r, h => by
  rw [y29] at h;cases hf : f a with
  | none => simp [hf] at h
  | some b =>
   cases hl : l.mapM f with
   | none => simp [hf, hl] at h
   | some bs =>
    simp [hf, hl] at h;subst h;obtain ⟨h1, h2⟩ := zgb hl;refine ⟨by simp [h1], fun i x hx => ?_⟩;cases i with
    | zero => simp at hx; subst hx; exact ⟨a, by simp, hf⟩
    | succ i => simpa using h2 i x (by simpa using hx)
theorem zgs {w : World} {ro : Nat -> Prop} {L : Option LI} : ∀ (d : Nat) (u : Value) (v : AV), zc5 d u = some v -> VRel w ro L v u := by
 intro d
 induction d with
 | zero => intro u v h; simp [zc5] at h
 | succ d ih =>
  intro u v h;have key : ∀ (cs : Array Value) (r : List AV), cs.toList.mapM (zc5 d) = some r -> cs.size = r.length /\ ∀ (i : Nat) (x : AV), r[i]? = some x -> VRel w ro L x (cs.getD i undef) := by
   intro cs r hr;obtain ⟨h1, h2⟩ := zgb hr;refine ⟨by simp [h1], fun i x hx => ?_⟩;obtain ⟨y, hy, hf⟩ := h2 i x hx;have : cs.getD i undef = y := by
    rw [y1r] at hy;simp [y02, hy]
   rw [this];exact ih y x hf
  cases u with
  | bool b => simp [zc5] at h; subst h; exact .bool
  | int k n => simp [zc5] at h; subst h; exact .int
  | string s => simp [zc5] at h; subst h; exact .str
  | pointer p => cases p <;> simp [zc5] at h; subst h; exact .nilp
  | slice p l c =>
   cases p <;> cases l <;> cases c <;> simp [zc5] at h
   subst h; exact .nils
  | nilFunc => simp [zc5] at h; subst h; exact .nilf
  | map m => cases m <;> simp [zc5] at h; subst h; exact .top
  | agg cs =>
   simp only [zc5, y03] at h;obtain ⟨r, hr, rfl⟩ := h;exact .agg (key cs r hr).1 (key cs r hr).2
  | tuple cs =>
   simp only [zc5, y03] at h;obtain ⟨r, hr, rfl⟩ := h;exact .tup (key cs r hr).1 (key cs r hr).2
  | _ => simp [zc5] at h
section
variable {P : Program} {w0 w : World} {N0 : Nat} {I : LI} {S S' : AS} {a : Act}
theorem Rel.arg (h : Rel w0 N0 I S a w) {x : Operand} {ar : Arg} {v : AV} (hc : za1 x = some ar) (hv : S.arg ar = some v) : VRel w I.ro (some I) v (a.eval x) := by
 cases x with
 | tmp t =>
  simp only [za1, y00] at hc;subst hc;exact h.tmps.2 t v hv
 | const u =>
  simp only [za1, y03] at hc;obtain ⟨x, hx, rfl⟩ := hc;simp only [AS.arg, y00] at hv;subst hv;exact zgs 4 u x hx
 | global g =>
  simp only [za1, y03] at hc;obtain ⟨cs, hg, rfl⟩ := hc;simp only [AS.arg, y00] at hv;subst hv;exact (h.hrel.glob _ (zoh hg)).pure
 | func f =>
  simp only [za1, y00] at hc;subst hc;simp only [AS.arg, y00] at hv;subst hv;exact .fn rfl rfl (by simp) (by simp)
theorem zqs : ∀ {l : List Arg} {vs : List AV}, S.args l = some vs -> vs.length = l.length /\ ∀ (i : Nat) (x : AV), vs[i]? = some x -> ∃ y, l[i]? = some y /\ S.arg y = some x
 | [], vs, h => by simp [AS.args] at h; subst h; simp
 | y :: l, vs, h => by
  simp only [AS.args] at h;cases h1 : S.arg y with
  | none => simp [h1] at h
  | some v =>
   cases h2 : S.args l with
   | none => simp [h1, h2] at h
   | some r =>
    simp [h1, h2] at h;subst h;obtain ⟨a1, a2⟩ := zqs h2;refine ⟨by simp [a1], fun i x hx => ?_⟩;cases i with
    | zero => simp at hx; subst hx; exact ⟨y, by simp, h1⟩
    | succ i => simpa using a2 i x (by simpa using hx)
theorem Rel.args (h : Rel w0 N0 I S a w) {xs : Array Operand} {as : List Arg} {vs : List AV} (hc : xs.toList.mapM za1 = some as) (hv : S.args as = some vs) :
  (xs.map a.eval).size = vs.length /\ ∀ (i : Nat) (v : AV), vs[i]? = some v -> VRel w I.ro (some I) v ((xs.map a.eval).getD i undef) := by
 obtain ⟨a1, a2⟩ := zgb hc;obtain ⟨b1, b2⟩ := zqs hv;refine ⟨by simp [a1, b1], fun i v hi => ?_⟩;obtain ⟨y, hy, hyv⟩ := b2 i v hi;obtain ⟨x, hx, hxy⟩ := a2 i y hy;have : (xs.map a.eval).getD i undef = a.eval x := by
  rw [y1r] at hx;simp [y02, hx]
 rw [this];exact h.arg hxy hyv
def Fin (w0 : World) (N0 : Nat) (I : LI) (a : Act) (w : World) (r : Result Next) (v : AV) (S' : AS) : Prop :=
 ∃ u w' I', (r = .ok (.value u) w' \/ (r = .ok .skip w' /\ u = undef)) /\ VRel w' I'.ro (some I') v u /\ Rel w0 N0 I' S' a w' /\ Evo I w I' w'
theorem Fin.same (h : Rel w0 N0 I S a w) {r : Result Next} {v : AV} {u : Value} (hr : r = .ok (.value u) w) (hv : VRel w I.ro (some I) v u) : Fin w0 N0 I a w r v S :=
 ⟨u, w, I, .inl hr, hv, h, Evo.refl I w⟩
theorem zhl {s : Sem Value} {u : Value} {w' : World} (h : s.run P w = .ok u w') : (do pure (.value (<- s)) : Sem Next).run P w = .ok (.value u) w' := by
 simp [h]
end
section
variable {P : Program} {w0 w : World} {N0 : Nat} {I : LI} {S S' : AS} {a : Act}
theorem za2 {t : TypeId} {d : TypeDesc} (h : P.underlying t = some d) (w : World) : (underlying t).run P w = .ok d w := run_underlying h w
theorem zc0 {t : TypeId} {n : Nat} (h : sizeOf? P t = some n) (w : World) : (sizeOf t).run P w = .ok n w := by
 simp only [sizeOf?, y03] at h;obtain ⟨i, hi, rfl⟩ := h;simp [sizeOf, typeInfo, hi]
theorem zs4 {t : TypeId} {r : Option Nat} (h : zhu P t = some r) (w : World) : (isAgg t).run P w = .ok r.isSome w /\ (∀ n, r = some n -> sizeOf? P t = some n) := by
 unfold zhu at h;cases hu : P.underlying t with
 | none => simp [hu] at h
 | some d =>
  simp only [hu] at h;have hr := run_underlying hu w;cases d <;> simp only [y03, y00] at h <;>
   first
   | (obtain ⟨n, hn, rfl⟩ := h; exact ⟨by simp [isAgg, hr], fun m hm => by injection hm with hm; rw [<- hm]; exact hn⟩)
   | (subst h; exact ⟨by simp [isAgg, hr], fun m hm => by cases hm⟩)
theorem zic {e : TypeId} {r : Option Nat} (h : zhu P e = some r) (cs : Array Value) (off : Nat) (w : World) :
  (∀ n, r = some n -> (part e cs off).run P w = .ok (.agg (cs.extract off (off + n))) w) /\ (∀ v, r = none -> cs[off]? = some v -> (part e cs off).run P w = .ok v w) := by
 obtain ⟨h1, h2⟩ := zs4 h w;constructor
 ·rintro n rfl;simp [part, h1, zc0 (h2 n rfl) w]
 ·rintro v rfl hv;simp [part, h1, hv]
theorem zh2 {w : World} {ro : Nat -> Prop} {L : Option LI} {v : AV} {u : Value} (h : VRel w ro L v u) {cs : List AV} (hc : v.cells? = some cs) :
  u.cells.size = cs.length /\ ∀ (i : Nat) (x : AV), cs[i]? = some x -> VRel w ro L x (u.cells.getD i undef) := by
 have one : ∀ {v : AV} {u : Value}, VRel w ro L v u -> u.cells = #[u] -> u.cells.size = [v].length /\ ∀ (i : Nat) (x : AV), [v][i]? = some x -> VRel w ro L x (u.cells.getD i undef) := by
  intro v u hv hu;rw [hu];refine ⟨rfl, fun i x hx => ?_⟩;cases i with
  | zero => simp at hx; subst hx; exact hv
  | succ i => simp at hx
 have h0 := h;cases h <;> simp only [AV.cells?, y00, reduceCtorEq] at hc <;> try subst hc
 case agg h1 h2 => exact ⟨h1, h2⟩
 case mptr hk _ => obtain ⟨p, rfl⟩ := hk; exact one h0 rfl
 case yield hk _ => obtain ⟨p, rfl⟩ := hk; exact one h0 rfl
 case mapv hk _ => obtain ⟨p, rfl⟩ := hk; exact one h0 rfl
 all_goals exact one h0 rfl
theorem zcd {w : World} {ro : Nat -> Prop} {L : Option LI} {v : AV} {u : Value} (h : VRel w ro L v u) (hc : v.isCell = true) : u.oneCell' = true := by
 cases h <;> simp [AV.isCell] at hc <;> try rfl
 case mptr hk _ => obtain ⟨p, rfl⟩ := hk; rfl
 case yield hk _ => obtain ⟨p, rfl⟩ := hk; rfl
 case mapv hk _ => obtain ⟨p, rfl⟩ := hk; rfl
end
section
variable {P : Program} {w0 w : World} {N0 : Nat} {I : LI} {S S' : AS} {a : Act} {io : IOp} {v : AV}
theorem zoe (cs : Array Value) (o n i : Nat) (hi : i < n) : (cs.extract o (o + n)).getD i undef = cs.getD (o + i) undef := by
 simp only [y02, Array.getElem?_extract];split
 ·rfl
 ·have : cs.size <= o + i := by omega
  simp [Array.getElem?_eq_none this]
theorem zqn {w : World} {ro : Nat -> Prop} {L : Option LI} {cs : List AV} {us : Array Value} (h1 : us.size = cs.length) (h : ∀ (i : Nat) (x : AV), cs[i]? = some x -> VRel w ro L x (us.getD i undef))
  {off n : Nat} (hn : off + n <= cs.length) : VRel w ro L (.agg ((cs.drop off).take n)) (.agg (us.extract off (off + n))) := by
 refine .agg (by simp; omega) fun i x hx => ?_;have hi : i < n := by
  have := (y05.1 hx).1;simp at this; omega
 rw [zoe us off n i hi];refine h (off + i) x ?_;rw [y13 hi, y18] at hx;exact hx
theorem s_pick {c x y : Operand} (h : Rel w0 N0 I S a w) {cc ca cb : Arg} (h1 : za1 c = some cc) (h2 : za1 x = some ca) (h3 : za1 y = some cb) (hr : iop S (.pick cc ca cb) = some (v, S')) :
  ∃ u, (do pure (Next.value (if <- asBool (a.eval c) then a.eval x else a.eval y)) : Sem Next).run P w = .ok (.value u) w /\ VRel w I.ro (some I) v u /\ S' = S := by
 simp only [iop] at hr;cases hc : S.arg cc with
 | none => simp [hc] at hr
 | some cv =>
  have hv := h.arg h1 hc;cases cv <;> simp only [hc, reduceCtorEq] at hr
  rename_i t;generalize hcu : a.eval c = cu at hv;cases hv;cases t
  ·simp only [y0t, if_false, y03, y0b] at hr;obtain ⟨b, hb, rfl, rfl⟩ := hr;exact ⟨a.eval y, by simp [asBool], h.arg h3 hb, rfl⟩
  ·simp only [if_true, y03, y0b] at hr;obtain ⟨b, hb, rfl, rfl⟩ := hr;exact ⟨a.eval x, by simp [asBool], h.arg h2 hb, rfl⟩
theorem zie (t : ByteArray) : t.toList = t.data.toList := ByteArray.toList_eq t
theorem zj8 {op : BinOp} {k : IntKind} {x y : Int} {t : TypeId} {r : AV} (hs : op ≠ .shl) (hs' : op ≠ .shr) (hr : zcf op k x y = some r) :
  ∃ u, (Go.binOp op t (.int k x) (.int k y)).run P w = .ok u w /\ VRel w I.ro (some I) r u := by
 have ki : ∀ {n : Int} {u : Value}, u = .int k n -> VRel w I.ro (some I) (.int k n) u := fun h => by subst h; exact .int
 have kb : ∀ {n : Bool} {u : Value}, u = .bool n -> VRel w I.ro (some I) (.bool n) u := fun h => by subst h; exact .bool
 cases op with
 | shl => exact absurd rfl hs
 | shr => exact absurd rfl hs'
 | quo =>
  simp only [zcf] at hr;split at hr
  ·cases hr
  ·rename_i hy;simp only [y00] at hr; subst hr;exact ⟨_, by simp [Go.binOp, Op.intDiv, hy], ki rfl⟩
 | rem =>
  simp only [zcf] at hr;split at hr
  ·cases hr
  ·rename_i hy;simp only [y00] at hr; subst hr;exact ⟨_, by simp [Go.binOp, Op.intDiv, hy], ki rfl⟩
 | add => simp only [zcf, y00] at hr; subst hr; exact ⟨_, by simp [Go.binOp, Op.intArith], ki rfl⟩
 | sub => simp only [zcf, y00] at hr; subst hr; exact ⟨_, by simp [Go.binOp, Op.intArith], ki rfl⟩
 | mul => simp only [zcf, y00] at hr; subst hr; exact ⟨_, by simp [Go.binOp, Op.intArith], ki rfl⟩
 | and => simp only [zcf, y00] at hr; subst hr; exact ⟨_, by simp only [Go.binOp, Op.intBits, ne_eq, not_true_eq_false, if_false]; rfl, ki rfl⟩
 | or => simp only [zcf, y00] at hr; subst hr; exact ⟨_, by simp only [Go.binOp, Op.intBits, ne_eq, not_true_eq_false, if_false]; rfl, ki rfl⟩
 | xor => simp only [zcf, y00] at hr; subst hr; exact ⟨_, by simp only [Go.binOp, Op.intBits, ne_eq, not_true_eq_false, if_false]; rfl, ki rfl⟩
 | andNot => simp only [zcf, y00] at hr; subst hr; exact ⟨_, by simp only [Go.binOp, Op.intBits, ne_eq, not_true_eq_false, if_false]; rfl, ki rfl⟩
 | eql => simp only [zcf, y00] at hr; subst hr; exact ⟨_, by simp [Go.binOp, Op.intCmp], kb rfl⟩
 | neq => simp only [zcf, y00] at hr; subst hr; exact ⟨_, by simp [Go.binOp, Op.intCmp], kb rfl⟩
 | lss => simp only [zcf, y00] at hr; subst hr; exact ⟨_, by simp [Go.binOp, Op.intCmp], kb rfl⟩
 | leq => simp only [zcf, y00] at hr; subst hr; exact ⟨_, by simp [Go.binOp, Op.intCmp], kb rfl⟩
 | gtr => simp only [zcf, y00] at hr; subst hr; exact ⟨_, by simp [Go.binOp, Op.intCmp], kb rfl⟩
 | geq => simp only [zcf, y00] at hr; subst hr; exact ⟨_, by simp [Go.binOp, Op.intCmp], kb rfl⟩
theorem zmb {op : BinOp} {k k' : IntKind} {x y : Int} {t : TypeId} {r : AV} (hs : op = .shl \/ op = .shr) (hr : ziy op k x y = some r) :
  ∃ u, (Go.binOp op t (.int k x) (.int k' y)).run P w = .ok u w /\ VRel w I.ro (some I) r u := by
 unfold ziy at hr;split at hr
 ·cases hr
 ·rename_i hy;rcases hs with rfl | rfl <;> simp only [y00] at hr <;> subst hr
  ·exact ⟨_, by simp only [Go.binOp, Op.shift, if_neg hy]; rfl, .int⟩
  ·exact ⟨_, by simp only [Go.binOp, Op.shift, if_neg hy]; rfl, .int⟩
theorem znf {op : BinOp} {x y : ByteArray} {t : TypeId} {r : AV} (hr : zle op x.data.toList y.data.toList = some r) :
  ∃ u, (Go.binOp op t (.string x) (.string y)).run P w = .ok u w /\ VRel w I.ro (some I) r u := by
 cases op <;> simp only [zle, y00, reduceCtorEq] at hr
 case add =>
  split at hr
  ·rename_i hle;simp only [y00] at hr;subst hr;refine ⟨.string (x ++ y), ?_, ?_⟩
   ·have hx : x.size = x.data.toList.length := rfl;have hy : y.size = y.data.toList.length := rfl;have : ¬ ((x.size + y.size : Nat) : Int) > IntKind.i64.max := by
     rw [hx, hy];have : IntKind.i64.max = 9223372036854775807 := by decide
     omega
    simp only [Go.binOp, Op.stringOp, this, if_false];rfl
   ·have : (x ++ y).data.toList = x.data.toList ++ y.data.toList := by simp [ByteArray.data_append]
    rw [<- this]; exact .str
  ·cases hr
 all_goals subst hr; exact ⟨_, by simp only [Go.binOp, Op.stringOp, zie]; rfl, .bool⟩
theorem zuq {op : BinOp} {lo hi lo' hi' a b : Int} {c : Bool} {k : IntKind} (h1 : lo <= a) (h2 : a <= hi) (h3 : lo' <= b) (h4 : b <= hi') (h : cmpR op lo hi lo' hi' = some c) : zcf op k a b = some (.bool c) /\ op ≠ .shl /\ op ≠ .shr := by
 cases op <;> simp only [cmpR, reduceCtorEq] at h
 case eql =>
  split at h <;> simp only [y00, reduceCtorEq] at h
  subst h;refine ⟨?_, by simp, by simp⟩;have : a ≠ b := by omega
  simp [zcf, this]
 case neq =>
  split at h <;> simp only [y00, reduceCtorEq] at h
  subst h;refine ⟨?_, by simp, by simp⟩;have : a ≠ b := by omega
  simp [zcf, this]
 all_goals
  split at h
  ·simp only [y00] at h; subst h;refine ⟨?_, by simp, by simp⟩;simp only [zcf, y00, AV.bool.injEq, decide_eq_true_eq]; omega
  ·split at h <;> simp only [y00, reduceCtorEq] at h
   subst h;refine ⟨?_, by simp, by simp⟩;simp only [zcf, y00, AV.bool.injEq, decide_eq_false_iff_not]; omega
theorem eqA_ok {op : BinOp} {no : List (List UInt8)} {lo hi : Nat} {s t : List UInt8} {c : Bool} (h0 : ∀ s ∈ no, t ≠ s) (h1 : lo <= t.length) (h2 : t.length <= hi) (h : eqA op no lo hi s = some c) : zle op t s = some (.bool c) /\ zle op s t = some (.bool c) := by
 unfold eqA at h;split at h <;> try cases h
 rename_i hc;have hne : t ≠ s := by
  rcases hc with hc | hc | hc
  ·exact h0 s hc
  ·intro e; subst e; omega
  ·intro e; subst e; omega
 have hne' : s ≠ t := fun e => hne e.symm;split at h <;> simp only [y00, reduceCtorEq] at h <;> subst h <;> simp [zle, hne, hne']
theorem s_binAbs {op : BinOp} {t : TypeId} {x y : Value} {xv yv r : AV} (hx : VRel w I.ro (some I) xv x) (hy : VRel w I.ro (some I) yv y) (hr : zue op xv yv = some r) :
  ∃ u, (Go.binOp op t x y).run P w = .ok u w /\ VRel w I.ro (some I) r u /\ (∀ cs, x ≠ .agg cs) /\ x ≠ .nilIface := by
 unfold zue at hr;split at hr
 ·split at hr <;> try cases hr
  rename_i hk; subst hk;simp only [y03] at hr;obtain ⟨c, hc, rfl⟩ := hr;cases hx; cases hy;rename_i n h1 h2;obtain ⟨e1, e2, e3⟩ := zuq h1 h2 (y2j _) (y2j _) hc;obtain ⟨u, a, b⟩ := zj8 (P := P) (w := w) (I := I) (t := t) e2 e3 e1;exact ⟨u, a, b, by simp, by simp⟩
 ·split at hr <;> try cases hr
  rename_i hk; subst hk;simp only [y03] at hr;obtain ⟨c, hc, rfl⟩ := hr;cases hx; cases hy;rename_i n h1 h2;obtain ⟨e1, e2, e3⟩ := zuq (y2j _) (y2j _) h1 h2 hc;obtain ⟨u, a, b⟩ := zj8 (P := P) (w := w) (I := I) (t := t) e2 e3 e1;exact ⟨u, a, b, by simp, by simp⟩
 ·split at hr <;> try cases hr
  rename_i hk; subst hk;simp only [y03] at hr;obtain ⟨c, hc, rfl⟩ := hr;cases hx; cases hy;rename_i k l b n hl;cases op <;> simp only [zwn, reduceCtorEq] at hc
  split at hc <;> try cases hc
  rename_i a0 l0;split at hc <;> try cases hc
  rename_i hb;split at hc <;> try cases hc
  rename_i hall;have := y0h.1 hall n hl;simp only [beq_iff_eq] at this;have e1 : zcf .rem k n b = some (.int k (a0.tmod b)) := by simp only [zcf, if_neg hb, this]
  obtain ⟨u, a, b⟩ := zj8 (P := P) (w := w) (I := I) (t := t) (by simp) (by simp) e1;exact ⟨u, a, b, by simp, by simp⟩
 ·simp only [y03] at hr;obtain ⟨c, hc, rfl⟩ := hr;cases hx; cases hy;rename_i t1 h1 h2 h0;obtain ⟨u, a, b⟩ := znf (P := P) (w := w) (I := I) (t := t) (eqA_ok (by assumption) (by assumption) (by assumption) hc).1;exact ⟨u, a, b, by simp, by simp⟩
 ·simp only [y03] at hr;obtain ⟨c, hc, rfl⟩ := hr;cases hx; cases hy;rename_i t0 t1 h0 h1 h2;obtain ⟨u, a, b⟩ := znf (P := P) (w := w) (I := I) (t := t) (eqA_ok (by assumption) (by assumption) (by assumption) hc).2;exact ⟨u, a, b, by simp, by simp⟩
 ·cases hr
theorem s_bin {op : BinOp} {t : TypeId} {x y : Value} {xv yv r : AV} (hx : VRel w I.ro (some I) xv x) (hy : VRel w I.ro (some I) yv y) (hr : binOp op xv yv = some r) :
  ∃ u, (Go.binOp op t x y).run P w = .ok u w /\ VRel w I.ro (some I) r u /\ (∀ cs, x ≠ .agg cs) /\ x ≠ .nilIface := by
 unfold binOp at hr;split at hr
 ·cases hx; cases hy;rename_i k x k' y;have key : ∀ {P' : Prop}, P' -> P' /\ (∀ cs, (Value.int k x) ≠ .agg cs) /\ (Value.int k x) ≠ .nilIface := fun h => ⟨h, by simp, by simp⟩
  split at hr
  ·obtain ⟨u, a, b⟩ := zmb (P := P) (w := w) (I := I) (t := t) (k' := k') (.inl rfl) hr; exact ⟨u, a, key b⟩
  ·obtain ⟨u, a, b⟩ := zmb (P := P) (w := w) (I := I) (t := t) (k' := k') (.inr rfl) hr; exact ⟨u, a, key b⟩
  ·rename_i n1 n2;split at hr
   ·rename_i hk; subst hk;obtain ⟨u, a, b⟩ := zj8 (P := P) (w := w) (I := I) (t := t) n1 n2 hr; exact ⟨u, a, key b⟩
   ·cases hr
 ·cases hx; cases hy;obtain ⟨u, a, b⟩ := znf (P := P) (w := w) (I := I) (t := t) hr;exact ⟨u, a, b, by simp, by simp⟩
 ·exact s_binAbs hx hy hr
theorem zam (op : BinOp) (t : TypeId) (x y : Operand) (u z : Value) (h1 : ∀ cs, u ≠ .agg cs) (h2 : u ≠ .nilIface) : (eqGuard op t x y u z).run P w = .ok () w := by
 unfold eqGuard;cases op <;> simp only [Bool.not_true, Bool.not_false, y0t, if_true, if_false] <;> (try rfl) <;>
  (
   split
   ·exact absurd rfl h2
   ·exact absurd rfl (h1 _)
   ·simp)
end
theorem zlp {a b : Array Value} {i : Nat} (h : a[i]? = b[i]?) : a.getD i undef = b.getD i undef := by
 simp [y02, h]
theorem zbg {α : Type} (off : Nat) (cs vs : List α) (h : off + vs.length <= cs.length) : (setAt off cs vs).length = cs.length := by
 simp [setAt]; omega
theorem zc1 {α : Type} (off : Nat) (cs vs : List α) (h : off + vs.length <= cs.length) (k : Nat) :
  (setAt off cs vs)[k]? = if k < off then cs[k]? else if k < off + vs.length then vs[k - off]? else cs[k]? := by
 have hl : (cs.take off).length = off := by simp; omega
 unfold setAt;by_cases h1 : k < off
 ·rw [if_pos h1, y1w, y0z (by omega), y13 h1]
 ·rw [if_neg h1, y1w, y12 (by omega), hl];by_cases h2 : k < off + vs.length
  ·rw [if_pos h2, y0z (by omega)]
  ·rw [if_neg h2, y12 (by omega), y18];congr 1; omega
theorem zk1 (off : Nat) : ∀ (vs : List Value) (k : Nat) (cs : Array Value), 
  ((vs.zipIdx k).foldl (fun cs (x : Value × Nat) => cs.setIfInBounds (off + x.2) x.1) cs).size = cs.size /\
  ∀ j, ((vs.zipIdx k).foldl (fun cs (x : Value × Nat) => cs.setIfInBounds (off + x.2) x.1) cs)[j]? = if off + k <= j /\ j < off + k + vs.length /\ j < cs.size then vs[j - (off + k)]? else cs[j]? := by
 intro vs
 induction vs with
 | nil => intro k cs; simp; intro j h1 h2; omega
 | cons v vs ih =>
  intro k cs;simp only [List.zipIdx_cons, List.foldl_cons];obtain ⟨h1, h2⟩ := ih (k + 1) (cs.setIfInBounds (off + k) v);refine ⟨by rw [h1]; simp, fun j => ?_⟩;rw [h2 j];simp only [Array.size_setIfInBounds, y19];by_cases hj : off + k = j
  ·subst hj;by_cases hs : off + k < cs.size
   ·rw [if_neg (by omega), if_pos (by omega)];simp [hs]
   ·rw [if_neg (by omega), if_neg (by omega)];simp [hs]
  ·rw [Array.getElem?_setIfInBounds_ne hj];by_cases hc : off + (k + 1) <= j /\ j < off + (k + 1) + vs.length /\ j < cs.size
   ·rw [if_pos hc, if_pos (by omega)];rw [show j - (off + k) = (j - (off + (k + 1))) + 1 from by omega, List.getElem?_cons_succ]
   ·rw [if_neg hc, if_neg (by omega)]
theorem zv7 (off : Nat) (vs cs : Array Value) (h : off + vs.size <= cs.size) (j : Nat) :
  (vs.zipIdx.foldl (fun cs (x : Value × Nat) => cs.setIfInBounds (off + x.2) x.1) cs)[j]? = if j < off then cs[j]? else if j < off + vs.size then vs[j - off]? else cs[j]? := by
 have e : vs.zipIdx.foldl (fun cs (x : Value × Nat) => cs.setIfInBounds (off + x.2) x.1) cs = (vs.toList.zipIdx 0).foldl (fun cs (x : Value × Nat) => cs.setIfInBounds (off + x.2) x.1) cs := by
  rw [<- Array.foldl_toList]; simp
 rw [e, (zk1 off vs.toList 0 cs).2 j];simp only [y2e, Array.length_toList];by_cases h1 : j < off
 ·rw [if_neg (by omega), if_pos h1]
 ·by_cases h2 : j < off + vs.size
  ·rw [if_pos (by omega), if_neg h1, if_pos h2]; simp
  ·rw [if_neg (by omega), if_neg h1, if_neg h2]
theorem zgk (off : Nat) (vs cs : Array Value) : (vs.zipIdx.foldl (fun cs (x : Value × Nat) => cs.setIfInBounds (off + x.2) x.1) cs).size = cs.size := by
 have e : vs.zipIdx.foldl (fun cs (x : Value × Nat) => cs.setIfInBounds (off + x.2) x.1) cs = (vs.toList.zipIdx 0).foldl (fun cs (x : Value × Nat) => cs.setIfInBounds (off + x.2) x.1) cs := by
  rw [<- Array.foldl_toList]; simp
 rw [e, (zk1 off vs.toList 0 cs).1]
def CRel (w : World) (ro : Nat -> Prop) (L : Option LI) (cs : List AV) (us : Array Value) : Prop :=
 us.size = cs.length /\ ∀ (i : Nat) (x : AV), cs[i]? = some x -> VRel w ro L x (us.getD i undef)
theorem CRel.setAt {w : World} {ro : Nat -> Prop} {L : Option LI} {cs vs : List AV} {us zs r : Array Value} {off : Nat} (h : CRel w ro L cs us) (hv : CRel w ro L vs zs) (hle : off + vs.length <= cs.length)
  (hs : r.size = us.size) (hr : ∀ j, r[j]? = if j < off then us[j]? else if j < off + zs.size then zs[j - off]? else us[j]?) : CRel w ro L (setAt off cs vs) r := by
 refine ⟨by rw [hs, h.1, zbg off cs vs hle], fun i x hx => ?_⟩;rw [zc1 off cs vs hle] at hx;have hri := hr i;rw [hv.1] at hri;by_cases h1 : i < off
 ·rw [if_pos h1] at hx hri;rw [zlp hri]; exact h.2 i x hx
 ·rw [if_neg h1] at hx hri;by_cases h2 : i < off + vs.length
  ·rw [if_pos h2] at hx hri;rw [y02, hri, <- y02];exact hv.2 _ x hx
  ·rw [if_neg h2] at hx hri;rw [zlp hri]; exact h.2 i x hx
section
variable {P : Program} {w0 w : World} {N0 : Nat} {I : LI} {S S' : AS} {a : Act} {io : IOp} {v : AV}
theorem zmt (h : Rel w0 N0 I S a w) (place : Nat -> Option (Nat × Nat)) : ∀ (xs : List (Nat × Operand)) (ps : List (Nat × Nat × Arg)) (l : List (Nat × AV)) (z cs : List AV) (zs : Array Value),
  zdw place xs = some ps -> S.parts ps = some l -> zbe z l = some cs -> CRel w I.ro (some I) z zs ->
  ∃ us, Instr.fill place zs (xs.map fun (i, x) => (i, a.eval x)) = some us /\ CRel w I.ro (some I) cs us
 | [], ps, l, z, cs, zs, h1, h2, h3, h4 => by
  simp [zdw] at h1; subst h1;simp [AS.parts] at h2; subst h2;simp [zbe] at h3; subst h3;exact ⟨zs, rfl, h4⟩
 | (i, x) :: xs, ps, l, z, cs, zs, h1, h2, h3, h4 => by
  simp only [zdw] at h1;split at h1
  ·rename_i off size ar r hp ha hrr;simp only [y00] at h1; subst h1;simp only [AS.parts] at h2;split at h2
   ·rename_i xv rv hxv hrv;split at h2
    ·rename_i vs hvs;split at h2
     ·rename_i hsz;simp only [y00] at h2; subst h2;simp only [zbe, hvs] at h3;split at h3
      ·rename_i hle;have hx := h.arg ha hxv;obtain ⟨c1, c2⟩ := zh2 hx hvs;have h4' : CRel w I.ro (some I) (setAt off z vs) ((a.eval x).cells.zipIdx.foldl (fun cs (x : Value × Nat) => cs.setIfInBounds (off + x.2) x.1) zs) :=
        h4.setAt ⟨c1, c2⟩ hle (zgk _ _ _) (zv7 off _ _ (by rw [c1, h4.1]; exact hle))
       obtain ⟨us, e1, e2⟩ := zmt h place xs r rv (setAt off z vs) cs _ hrr hrv h3 h4';refine ⟨us, ?_, e2⟩;have n1 : ¬ ((a.eval x).cells.size ≠ size || off + (a.eval x).cells.size > zs.size) = true := by
        simp [c1, hsz, h4.1]; omega
       simp only [y1d, Instr.fill, hp, n1];exact e1
      ·cases h3
     ·cases h2
    ·cases h2
   ·cases h2
  ·cases h1
theorem zed {t : TypeId} {z : List AV} (hz : zdt P t = some z) : ∃ inf u, P.info? t = some inf /\ inf.zero = some u /\ ∀ (w : World) (ro : Nat -> Prop) (L : Option LI), CRel w ro L z u.cells := by
 unfold zdt at hz;cases hi : P.info? t with
 | none => simp [hi] at hz
 | some inf =>
  simp only [hi] at hz;cases hzz : inf.zero with
  | none => simp [hzz] at hz
  | some u =>
   simp only [hzz] at hz;obtain ⟨h1, h2⟩ := zgb hz;refine ⟨inf, u, rfl, hzz, fun w ro L => ⟨by simp [h1], fun i x hx => ?_⟩⟩;obtain ⟨y, hy, hf⟩ := h2 i x hx;have : u.cells.getD i undef = y := by
    rw [y1r] at hy;simp [y02, hy]
   rw [this];exact zgs 4 y x hf
theorem s_build (h : Rel w0 N0 I S a w) {t : TypeId} {parts : Array (Nat × Operand)} (hc : zbw P (.build t parts) = some io) (hr : iop S io = some (v, S')) :
  ∃ u, (Instr.build t (parts.map fun (i, x) => (i, a.eval x))).run P w = .ok u w /\ VRel w I.ro (some I) v u /\ S' = S := by
 simp only [zbw] at hc;have key : ∀ (z : List AV) (ps : List (Nat × Nat × Arg)) (place : Nat -> Option (Nat × Nat)), zdt P t = some z -> zdw place parts.toList = some ps -> io = .build z ps ->
   (∀ inf u, P.info? t = some inf -> inf.zero = some u -> ∀ us, Instr.fill place u.cells (parts.map fun (i, x) => (i, a.eval x)).toList = some us -> P.built t (parts.map fun (i, x) => (i, a.eval x)).toList = some us) ->
   ∃ u, (Instr.build t (parts.map fun (i, x) => (i, a.eval x))).run P w = .ok u w /\ VRel w I.ro (some I) v u /\ S' = S := by
  intro z ps place hz hp hio hb;subst hio;simp only [iop] at hr;split at hr
  ·rename_i l hl;split at hr
   ·rename_i cs hcs;simp only [y00, y0b] at hr;obtain ⟨rfl, rfl⟩ := hr;obtain ⟨inf, u, hi, hzz, hcr⟩ := zed hz;obtain ⟨us, e1, e2⟩ := zmt h place parts.toList ps l z cs u.cells hp hl hcs (hcr w I.ro (some I));refine ⟨.agg us, run_build w t _ us (hb inf u hi hzz us ?_), .agg e2.1 e2.2, rfl⟩;rw [<- e1]; simp
   ·cases hr
  ·cases hr
 split at hc
 ·rename_i fs hu;split at hc
  ·rename_i z pl hz hpl;simp only [y03] at hc;obtain ⟨ps, hps, rfl⟩ := hc;refine key z ps _ hz hps rfl fun inf u hi hzz us hf => ?_;unfold zrx at hpl;simp only [Program.built, hi, hu, hzz, hpl];exact hf
  ·cases hc
 ·rename_i n e hu;split at hc
  ·rename_i z s hz hs;simp only [y03] at hc;obtain ⟨ps, hps, rfl⟩ := hc;refine key z ps _ hz hps rfl fun inf u hi hzz us hf => ?_;simp only [sizeOf?, y03] at hs;obtain ⟨ie, hie, rfl⟩ := hs;simp only [Program.built, hi, hu, hzz, hie];exact hf
  ·cases hc
 ·cases hc
end
section
variable {P : Program} {w0 w : World} {N0 : Nat} {I : LI} {S S' : AS} {a : Act} {io : IOp} {v : AV}
theorem s_un {op : UnOp} {x : Value} {xv r : AV} (hx : VRel w I.ro (some I) xv x) (hr : unOp op xv = some r) : ∃ u, (Op.unary op x).run P w = .ok u w /\ VRel w I.ro (some I) r u := by
 unfold unOp at hr;split at hr
 ·cases hx; simp only [y00] at hr; subst hr; exact ⟨_, by simp only [Op.unary, Op.intArith]; rfl, .int⟩
 ·cases hx; simp only [y00] at hr; subst hr; exact ⟨_, by simp only [Op.unary, Op.intBits]; rfl, .int⟩
 ·cases hx; simp only [y00] at hr; subst hr; exact ⟨_, by simp only [Op.unary]; rfl, .bool⟩
 ·cases hr
theorem s_eqk {d : Nat} {t : TypeId} {k : EqK} (hk : zep P t = some k) {x y : AV} {u z : Value} {r : Bool} (hx : VRel w I.ro (some I) x u) (hy : VRel w I.ro (some I) y z) (hr : eqK k x y = some r) :
  (Op.equalIn (d + 1) t u z).run P w = .ok r w := by
 unfold zep at hk;unfold eqK at hr;split at hr
 ·cases hx; cases hy;split at hr
  ·rename_i h; subst h;simp only [y00] at hr; subst hr;split at hk <;> simp only [y00, reduceCtorEq] at hk
   rename_i hu;exact run_equalIn_int w d t _ _ _ _ hu
  ·cases hr
 ·cases hx; cases hy;simp only [y00] at hr; subst hr;split at hk <;> simp only [y00, reduceCtorEq] at hk
  rename_i hu;exact run_equalIn_bool' w d t _ _ hu
 ·cases hx; cases hy;simp only [y00] at hr; subst hr;split at hk <;> simp only [y00, reduceCtorEq] at hk
  rename_i hu;rw [run_equalIn_string w d t _ _ hu, zie, zie]
 ·cases hr
theorem zh6 {t : TypeId} {k : EqK} (hk : zep P t = some k) : zhu P t = some none := by
 unfold zep at hk;unfold zhu;split at hk <;> simp_all
theorem s_eqfs {d : Nat} {xs ys : List AV} {us zs : Array Value} (hx : CRel w I.ro (some I) xs us) (hy : CRel w I.ro (some I) ys zs) : ∀ (fs : List Field) (l : List (Nat × EqK)) (r : Bool), zdz P fs = some l -> eqFs xs ys l = some r ->
  (Op.eqFields (d + 1) us zs fs).run P w = .ok r w
 | [], l, r, h1, h2 => by
  simp [zdz] at h1; subst h1;simp [eqFs] at h2; subst h2;simp [Op.eqFields]
 | f :: fs, l, r, h1, h2 => by
  simp only [zdz] at h1;split at h1
  ·cases h1
  ·rename_i hn;split at h1
   ·rename_i k rl hk hrl;simp only [y00] at h1; subst h1;simp only [eqFs] at h2;split at h2
    ·rename_i x y hxo hyo;split at h2
     ·rename_i p q hp hq;simp only [y00] at h2; subst h2;have e1 : us[f.offset]? = some (us.getD f.offset undef) := by
       have : f.offset < us.size := by rw [hx.1]; exact (y05.1 hxo).1
       simp [y02, this]
      have e2 : zs[f.offset]? = some (zs.getD f.offset undef) := by
       have : f.offset < zs.size := by rw [hy.1]; exact (y05.1 hyo).1
       simp [y02, this]
      have pa := (zic (zh6 hk) us f.offset w).2 _ rfl e1;have pb := (zic (zh6 hk) zs f.offset w).2 _ rfl e2;have pc := s_eqk (d := d) hk (hx.2 _ _ hxo) (hy.2 _ _ hyo) hp;simp only [Op.eqFields, ne_eq, hn, not_false_eq_true, if_true, Sem.run_bind, pa, Result.andThen_ok, pb, pc];cases p
      ·simp
      ·simp only [Bool.not_true, y0t, if_false, y1o];exact s_eqfs hx hy fs rl q hrl hq
     ·cases h2
    ·cases h2
   ·cases h1
theorem s_eqs {t : TypeId} {fs : Array Field} (hu : P.underlying t = some (.struct fs)) (h1 : P.stoodInHeld t = false) {l : List (Nat × EqK)} (hl : zdz P fs.toList = some l) {xs ys : List AV} {us zs : Array Value}
  (hx : CRel w I.ro (some I) xs us) (hy : CRel w I.ro (some I) ys zs) {r : Bool} (hr : eqFs xs ys l = some r) :
  (Go.binOp .eql t (.agg us) (.agg zs)).run P w = .ok (.bool r) w /\ (Go.binOp .neq t (.agg us) (.agg zs)).run P w = .ok (.bool (!r)) w := by
 have hf : P.fieldsOf t = fs := by unfold Program.fieldsOf; rw [hu]
 have hk := run_equalIn_struct (P := P) w 9999 t us zs (by rw [hf]; exact hu) h1;rw [hf, s_eqfs (d := 9998) hx hy fs.toList l r hl hr] at hk;constructor
 ·rw [run_eql_struct, hk]; rfl
 ·rw [run_neq_struct, hk]; rfl
theorem zp5 {d : Nat} {e : TypeId} {k : EqK} (hk : zep P e = some k) {s : Nat} {xs ys : List AV} {us zs : Array Value} (hx : CRel w I.ro (some I) xs us) (hy : CRel w I.ro (some I) ys zs) : ∀ (is : List Nat) (r : Bool), eqFs xs ys (is.map fun i => (i * s, k)) = some r ->
  (Op.eqItems (d + 1) e s us zs is).run P w = .ok r w
 | [], r, h2 => by
  simp [eqFs] at h2; subst h2;simp [Op.eqItems]
 | i :: is, r, h2 => by
  simp only [y1d, eqFs] at h2;split at h2
  ·rename_i x y hxo hyo;split at h2
   ·rename_i p q hp hq;simp only [y00] at h2; subst h2;have e1 : us[i * s]? = some (us.getD (i * s) undef) := by
     have : i * s < us.size := by rw [hx.1]; exact (y05.1 hxo).1
     simp [y02, this]
    have e2 : zs[i * s]? = some (zs.getD (i * s) undef) := by
     have : i * s < zs.size := by rw [hy.1]; exact (y05.1 hyo).1
     simp [y02, this]
    have pa := (zic (zh6 hk) us (i * s) w).2 _ rfl e1;have pb := (zic (zh6 hk) zs (i * s) w).2 _ rfl e2;have pc := s_eqk (d := d) hk (hx.2 _ _ hxo) (hy.2 _ _ hyo) hp;simp only [Op.eqItems, Sem.run_bind, pa, Result.andThen_ok, pb, pc];cases p
    ·simp
    ·simp only [Bool.not_true, y0t, if_false, y1o];exact zp5 hk hx hy is q hq
   ·cases h2
  ·cases h2
theorem s_eqarr {t e : TypeId} {n : Nat} (hu : P.underlying t = some (.array n e)) {l : List (Nat × EqK)} (hl : zjr P e n = some l) {xs ys : List AV} {us zs : Array Value}
  (hx : CRel w I.ro (some I) xs us) (hy : CRel w I.ro (some I) ys zs) {r : Bool} (hr : eqFs xs ys l = some r) :
  (Go.binOp .eql t (.agg us) (.agg zs)).run P w = .ok (.bool r) w /\ (Go.binOp .neq t (.agg us) (.agg zs)).run P w = .ok (.bool (!r)) w := by
 unfold zjr at hl;split at hl
 ·rename_i k s hk hs;simp only [y00] at hl; subst hl;obtain ⟨i, hi, rfl⟩ := y03.1 hs;have hc : P.cellsOf e = i.size := by unfold Program.cellsOf; rw [hi]; rfl
  have key := run_equalIn_array (P := P) (w := w) 9999 us zs hu hi;rw [hc, zp5 (d := 9998) hk hx hy (List.range n) r hr] at key;constructor
  ·rw [run_eql_struct, key]; rfl
  ·rw [run_neq_struct, key]; rfl
 ·cases hl
theorem zwv (w : World) (d : Nat) (t e : TypeId) (a : Addr) (n c : Nat) (h : P.underlying t = some (.slice e)) : (Op.equalIn (d + 1) t (.slice (some a) n c) (.slice none 0 0)).run P w = .ok false w := by
 simp [Op.equalIn, run_underlying h]
theorem zwu (t e : TypeId) (a : Addr) (n c : Nat) (h : P.underlying t = some (.slice e)) :
  (Go.binOp .eql t (.slice (some a) n c) (.slice none 0 0)).run P w = .ok (.bool false) w /\ (Go.binOp .neq t (.slice (some a) n c) (.slice none 0 0)).run P w = .ok (.bool true) w := by
 constructor
 ·simp only [Go.binOp];simp [Op.equal, Op.maxDepth, zwv w 9999 t e a n c h]
 ·simp only [Go.binOp];simp [Op.equal, Op.maxDepth, zwv w 9999 t e a n c h]
end
end Go.Am
