/-
  ABSTRACT VALUES AND STATES, AND WHAT THEY SAY OF A WORLD. A general base for proofs: no program is named here.
-/
import Derived.OrdersIn
import Derived.RangeFuncLeaves
import Derived.Below
import Derived.RangeFuncRecord
namespace Go.Am
open Go Go.RowKit

/-- A value as the proofs see it. 'vs', 'vptr': memory that nobody writes any more, by its contents. 'ms', 'mptr': memory of the call's own: the block's name and the stamp at which it was made. -/
inductive AV where
  | top
  | bool (b : Bool)
  | int (k : IntKind) (n : Int)
  | str (s : List UInt8)
  | nilp
  | vptr (cells : List AV)
  | mptr (id st off : Nat)
  | nils
  | vs (es : List (List AV))
  | ms (id st sz off len : Nat) (cap : Option Nat)
  | fn (f : FuncId) (first cap : List AV)
  | yield (id st : Nat)
  | nilf
  | agg (cs : List AV)
  | tup (vs : List AV)
  | mapv (id st : Nat)
  | rng (k : IntKind) (lo hi : Int)
  | ints (k : IntKind) (l : List Int)
  | strA (no : List (List UInt8)) (lo hi : Nat)

inductive Loc where
  | void
  | at (b base n : Nat)

structure LI where
  loc : Nat → Nat → Option Loc
  clk : Nat
  ok : Nat → Prop

def LI.ro (I : LI) (b : Nat) : Prop := I.ok b ∧ ∀ id st base n, I.loc id st ≠ some (.at b base n)

inductive VRel (w : World) (ro : Nat → Prop) : Option LI → AV → Value → Prop
  | top {L u} : VRel w ro L .top u
  | bool {L b} : VRel w ro L (.bool b) (.bool b)
  | int {L k n} : VRel w ro L (.int k n) (.int k n)
  | str {L} {t : ByteArray} : VRel w ro L (.str t.data.toList) (.string t)
  | nilp {L} : VRel w ro L .nilp (.pointer none)
  | vptr {L cells b off} (us : Nat → Value) (hc : ∀ i x, cells[i]? = some x → ro b ∧ w.cell? ⟨b, off + i, none⟩ = some (us i))
      (hv : ∀ i x, cells[i]? = some x → VRel w ro none x (us i)) : VRel w ro L (.vptr cells) (.pointer (some ⟨b, off, none⟩))
  | mptr {L id st off u} (hk : ∃ p, u = .pointer (some p)) (h : ∃ I, L = some I ∧ st < I.clk ∧ I.loc id st ≠ some .void ∧ ∀ b base n, I.loc id st = some (.at b base n) → u = .pointer (some ⟨b, base + off, none⟩)) : VRel w ro L (.mptr id st off) u
  | nils {L a} : VRel w ro L .nils (.slice a 0 0)
  | vs {L es a len cap sz b off} (us : Nat → Nat → Value) (hl : len = es.length) (hcap : len ≤ cap) (ha : es ≠ [] → a = some ⟨b, off, none⟩) (hsz : ∀ e ∈ es, e.length = sz)
      (hc : ∀ i j e x, es[i]? = some e → e[j]? = some x → ro b ∧ w.cell? ⟨b, off + i * sz + j, none⟩ = some (us i j))
      (hv : ∀ i j e x, es[i]? = some e → e[j]? = some x → VRel w ro none x (us i j)) : VRel w ro L (.vs es) (.slice a len cap)
  | ms {L id st sz off len cap p c} (hl : len ≤ c) (hp : 0 < c → ∃ q, p = some q) (hcap : ∀ k, cap = some k → c = k) (h : ∃ I, L = some I ∧ st < I.clk ∧
      (∀ b base n, I.loc id st = some (.at b base n) → c = 0 ∨ (p = some ⟨b, base + off, none⟩ ∧ (cap = none → base + off + c * sz = n))) ∧
      (I.loc id st = some .void → c = 0)) : VRel w ro L (.ms id st sz off len cap) (.slice p len c)
  | fn {L f first cap} {fs cs : Array Value} (h1 : fs.size = first.length) (h2 : cs.size = cap.length) (hf : ∀ i x, first[i]? = some x → VRel w ro L x (fs.getD i undef))
      (hc : ∀ i x, cap[i]? = some x → VRel w ro L x (cs.getD i undef)) : VRel w ro L (.fn f first cap) (.func (.func f) fs cs)
  | yield {L id st u} (hk : ∃ f, u = .func f #[] #[]) (h : ∃ I, L = some I ∧ st < I.clk ∧ ∀ b base n, I.loc id st = some (.at b base n) → u = .func (.yield b) #[] #[]) : VRel w ro L (.yield id st) u
  | nilf {L} : VRel w ro L .nilf .nilFunc
  | agg {L cs} {us : Array Value} (h1 : us.size = cs.length) (h : ∀ i x, cs[i]? = some x → VRel w ro L x (us.getD i undef)) : VRel w ro L (.agg cs) (.agg us)
  | tup {L vs} {us : Array Value} (h1 : us.size = vs.length) (h : ∀ i x, vs[i]? = some x → VRel w ro L x (us.getD i undef)) : VRel w ro L (.tup vs) (.tuple us)
  | mapv {L id st u} (hk : ∃ r, u = .map r) (h : ∃ I, L = some I ∧ st < I.clk ∧ ∀ b base n, I.loc id st = some (.at b base n) → u = .map (some b)) : VRel w ro L (.mapv id st) u
  | rng {L k n lo hi} (h1 : lo ≤ n) (h2 : n ≤ hi) : VRel w ro L (.rng k lo hi) (.int k n)
  | ints {L k n l} (h : n ∈ l) : VRel w ro L (.ints k l) (.int k n)
  | strA {L no lo hi} {t : ByteArray} (h : ∀ s ∈ no, t.data.toList ≠ s) (h1 : lo ≤ t.data.toList.length) (h2 : t.data.toList.length ≤ hi) : VRel w ro L (.strA no lo hi) (.string t)

/-- The second label claims no more than the first. -/
def LLe : Option LI → Option LI → Prop
  | none, _ => True
  | some _, none => False
  | some I, some J => I.clk ≤ J.clk ∧ ∀ id st l, st < I.clk → J.loc id st = some l → I.loc id st = some l

theorem LLe.refl : ∀ L, LLe L L
  | none => trivial
  | some _ => ⟨Nat.le_refl _, fun _ _ _ _ h => h⟩

theorem LLe.some {I : LI} {L : Option LI} (h : LLe (some I) L) : ∃ J, L = some J ∧ I.clk ≤ J.clk ∧ ∀ id st l, st < I.clk → J.loc id st = some l → I.loc id st = some l := by
  cases L with
  | none => exact h.elim
  | some J => exact ⟨J, rfl, h.1, h.2⟩

theorem VRel.mono {w w' : World} {ro ro' : Nat → Prop} {L : Option LI} {v : AV} {u : Value} (h : VRel w ro L v u)
    (hr : ∀ b i x, ro b → w.cell? ⟨b, i, none⟩ = some x → ro' b ∧ w'.cell? ⟨b, i, none⟩ = some x) :
    ∀ {L' : Option LI}, LLe L L' → VRel w' ro' L' v u := by
  induction h with
  | top => intro L' _; exact .top
  | bool => intro L' _; exact .bool
  | int => intro L' _; exact .int
  | str => intro L' _; exact .str
  | nilp => intro L' _; exact .nilp
  | vptr us hc hv ih =>
    intro L' _
    exact .vptr us (fun i x hx => hr _ _ _ (hc i x hx).1 (hc i x hx).2) (fun i x hx => ih i x hx (LLe.refl _))
  | mptr hk h =>
    intro L' hl
    obtain ⟨I, rfl, h1, h0, h2⟩ := h
    obtain ⟨J, rfl, j1, j2⟩ := hl.some
    exact .mptr hk ⟨J, rfl, Nat.lt_of_lt_of_le h1 j1, fun hv => h0 (j2 _ _ _ h1 hv), fun b base n hb => h2 b base n (j2 _ _ _ h1 hb)⟩
  | nils => intro L' _; exact .nils
  | vs us hl hcap ha hsz hc hv ih =>
    intro L' _
    exact .vs us hl hcap ha hsz (fun i j e x he hx => hr _ _ _ (hc i j e x he hx).1 (hc i j e x he hx).2) (fun i j e x he hx => ih i j e x he hx (LLe.refl _))
  | ms hl hp hcap h =>
    intro L' hL
    obtain ⟨I, rfl, h1, h2, h3⟩ := h
    obtain ⟨J, rfl, j1, j2⟩ := hL.some
    exact .ms hl hp hcap ⟨J, rfl, Nat.lt_of_lt_of_le h1 j1, fun b base n hb => h2 b base n (j2 _ _ _ h1 hb), fun hb => h3 (j2 _ _ _ h1 hb)⟩
  | fn h1 h2 hf hc ihf ihc => intro L' hl; exact .fn h1 h2 (fun i x hx => ihf i x hx hl) (fun i x hx => ihc i x hx hl)
  | yield hk h =>
    intro L' hl
    obtain ⟨I, rfl, h1, h2⟩ := h
    obtain ⟨J, rfl, j1, j2⟩ := hl.some
    exact .yield hk ⟨J, rfl, Nat.lt_of_lt_of_le h1 j1, fun b base n hb => h2 b base n (j2 _ _ _ h1 hb)⟩
  | nilf => intro L' _; exact .nilf
  | agg h1 h ih => intro L' hl; exact .agg h1 (fun i x hx => ih i x hx hl)
  | tup h1 h ih => intro L' hl; exact .tup h1 (fun i x hx => ih i x hx hl)
  | mapv hk h =>
    intro L' hl
    obtain ⟨I, rfl, h1, h2⟩ := h
    obtain ⟨J, rfl, j1, j2⟩ := hl.some
    exact .mapv hk ⟨J, rfl, Nat.lt_of_lt_of_le h1 j1, fun b base n hb => h2 b base n (j2 _ _ _ h1 hb)⟩
  | rng h1 h2 => intro L' _; exact .rng h1 h2
  | ints h => intro L' _; exact .ints h
  | strA h h1 h2 => intro L' _; exact .strA h h1 h2

/-- Package-level variables that nobody writes and whose cells are known: by number. -/
def GTAB : List (Nat × List AV) := [(0, [.int .u8 65, .int .u8 90, .int .u8 1, .int .u8 97, .int .u8 122, .int .u8 1, .int .u8 48, .int .u8 57, .int .u8 2, .int .u8 95, .int .u8 95, .int .u8 3, .int .u8 32, .int .u8 32, .int .u8 5, .int .u8 10, .int .u8 10, .int .u8 5])]

def GOk (ro : Nat → Prop) (w : World) : Prop := ∀ x ∈ GTAB, VRel w ro none (.vptr x.2) (.pointer (some ⟨x.1, 0, none⟩))

theorem GOk.mono {w w' : World} {ro ro' : Nat → Prop} (h : GOk ro w) (hr : ∀ b i x, ro b → w.cell? ⟨b, i, none⟩ = some x → ro' b ∧ w'.cell? ⟨b, i, none⟩ = some x) : GOk ro' w' :=
  fun x hx => (h x hx).mono hr trivial

def globC : Nat → List (Nat × List AV) → Option (List AV)
  | _, [] => none
  | g, (h, cs) :: l => if h = g then some cs else globC g l

theorem globC_mem {g : Nat} {cs : List AV} : ∀ {l : List (Nat × List AV)}, globC g l = some cs → (g, cs) ∈ l
  | [], h => by cases h
  | (k, c) :: l, h => by
    simp only [globC] at h
    split at h
    · rename_i e; subst e; injection h with h; subst h; exact List.mem_cons_self ..
    · exact List.mem_cons_of_mem _ (globC_mem h)

/-- What is claimed without a label is claimed under every one. -/
theorem VRel.pure {w : World} {ro : Nat → Prop} {L : Option LI} {v : AV} {u : Value} (h : VRel w ro none v u) : VRel w ro L v u :=
  h.mono (fun _ _ _ a b => ⟨a, b⟩) trivial

/-- The value without what is claimed of the call's own memory. -/
def strip : AV → AV
  | .mptr .. | .ms .. | .yield .. | .mapv .. => .top
  | .agg cs => .agg (stripL cs)
  | .tup cs => .tup (stripL cs)
  | .fn f a b => .fn f (stripL a) (stripL b)
  | v => v
where
  stripL : List AV → List AV
    | [] => []
    | v :: l => strip v :: stripL l

theorem stripL_eq : ∀ l, strip.stripL l = l.map strip
  | [] => rfl
  | v :: l => by simp [strip.stripL, stripL_eq l]

theorem VRel.strip {w : World} {ro : Nat → Prop} {L : Option LI} {v : AV} {u : Value} (h : VRel w ro L v u) : VRel w ro none (strip v) u := by
  have get : ∀ (l : List AV) (i : Nat) (x : AV), (l.map Go.Am.strip)[i]? = some x → ∃ y, l[i]? = some y ∧ x = Go.Am.strip y := by
    intro l i x hx
    rw [List.getElem?_map, Option.map_eq_some_iff] at hx
    obtain ⟨y, hy, rfl⟩ := hx
    exact ⟨y, hy, rfl⟩
  induction h with
  | top => exact .top
  | bool => exact .bool
  | int => exact .int
  | str => exact .str
  | nilp => exact .nilp
  | vptr us hc hv ih => exact .vptr us hc hv
  | mptr => exact .top
  | nils => exact .nils
  | vs us hl hcap ha hsz hc hv ih => exact .vs us hl hcap ha hsz hc hv
  | ms => exact .top
  | fn h1 h2 hf hc ihf ihc =>
    simp only [Go.Am.strip, stripL_eq]
    refine .fn (by simpa using h1) (by simpa using h2) (fun i x hx => ?_) (fun i x hx => ?_)
    · obtain ⟨y, hy, rfl⟩ := get _ _ _ hx; exact ihf i y hy
    · obtain ⟨y, hy, rfl⟩ := get _ _ _ hx; exact ihc i y hy
  | yield => exact .top
  | nilf => exact .nilf
  | agg h1 h ih =>
    simp only [Go.Am.strip, stripL_eq]
    refine .agg (by simpa using h1) (fun i x hx => ?_)
    obtain ⟨y, hy, rfl⟩ := get _ _ _ hx; exact ih i y hy
  | tup h1 h ih =>
    simp only [Go.Am.strip, stripL_eq]
    refine .tup (by simpa using h1) (fun i x hx => ?_)
    obtain ⟨y, hy, rfl⟩ := get _ _ _ hx; exact ih i y hy
  | mapv => exact .top
  | rng h1 h2 => exact .rng h1 h2
  | ints h => exact .ints h
  | strA h h1 h2 => exact .strA h h1 h2

end Go.Am
