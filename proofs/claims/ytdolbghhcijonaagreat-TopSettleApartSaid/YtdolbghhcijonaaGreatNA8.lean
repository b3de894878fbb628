/-
  AN ABSTRACT MACHINE FOR PROOFS, PART 8. A general base for proofs: no program is named here.
-/
import Derived.Test.YtdolbghhcijonaaGreatNA7
namespace Go.Am
open Go Go.RowKit Go.ChangeShapes Go.WideShapes Go.ChangeAt Go.Deep
section
variable {H : Type} (enc : TypeId × Value -> H) (P : Program) (w : World) (base : Nat) (spare : Nat -> Bool) (held : Bool)
def Rd (t : TypeId) (f : DataW H -> List AV) : Prop :=
 ∀ n cs d p, DataW.trod enc P w base spare held n t cs = some (d, p) -> CRel w (fun _ => True) none (f d) cs.toArray /\ (f d).length = P.cellsOf t
end
section
variable {H : Type} {enc : TypeId × Value -> H} {P : Program} {w : World} {base : Nat} {spare : Nat -> Bool} {held : Bool}
def znt : DataW H -> Int
 | .lit (.int _ n) => n
 | _ => 0
def zuj : DataW H -> Bool
 | .lit (.bool b) => b
 | _ => false
def strD : DataW H -> List UInt8
 | .lit (.string s) => s
 | _ => []
def zc8 : DataW H -> List (DataW H)
 | .slice es _ => es
 | _ => []
def zd8 : DataW H -> List (DataW H)
 | .agg ds => ds
 | _ => []
def zl3 (k : IntKind) (d : DataW H) : List AV := [.int k (znt d)]
def zjl (d : DataW H) : List AV := [.bool (zuj d)]
def cStr (d : DataW H) : List AV := [.str (strD d)]
def zbr (f : DataW H -> List AV) (d : DataW H) : List AV := [.vs ((zc8 d).map f)]
theorem zs2 {t : TypeId} {k : IntKind} (ht : P.underlying t = some (.int k)) (hc : P.cellsOf t = 1) : Rd enc P w base spare held t (zl3 k) := by
 intro n cs d p h;obtain ⟨z, rfl, hx, _⟩ := DataW.trod_int ht h;simp only [y0b] at hx;obtain ⟨rfl, rfl⟩ := hx;exact ⟨zpq .int, hc.symm⟩
theorem rd_bool {t : TypeId} (ht : P.underlying t = some .bool) (hc : P.cellsOf t = 1) : Rd enc P w base spare held t zjl := by
 intro n cs d p h;obtain ⟨z, rfl, hx⟩ := DataW.trod_bool ht h;simp only [y0b] at hx;obtain ⟨rfl, rfl⟩ := hx;exact ⟨zpq .bool, hc.symm⟩
theorem rd_str {t : TypeId} (ht : P.underlying t = some .string) (hc : P.cellsOf t = 1) : Rd enc P w base spare held t cStr := by
 intro n cs d p h;obtain ⟨z, rfl, hx, _⟩ := DataW.trod_string ht h;simp only [y0b] at hx;obtain ⟨rfl, rfl⟩ := hx;exact ⟨zpq .str, hc.symm⟩
theorem zop {a : Addr} {sz : Nat} {cs : List Value} (h : (List.range sz).mapM (fun i => w.cell? (a.add i)) = some cs) : cs.length = sz /\ ∀ j, j < sz -> w.cell? (a.add j) = some (cs.getD j undef) := by
 have h1 := Lib.mapM_length h;simp at h1;refine ⟨h1, fun j hj => ?_⟩;obtain ⟨b, hb, hf⟩ := Lib.mapM_at h j j (by simp [hj]);rw [hf];simp [List.getD, hb]
theorem zj7 {t e : TypeId} {f : DataW H -> List AV} (ht : P.underlying t = some (.slice e)) (hc : P.cellsOf t = 1) (hs : 0 < P.cellsOf e) (hf : Rd enc P w base spare held e f) : Rd enc P w base spare held t (zbr f) := by
 intro n cs d p h;rcases Deep.open_slice ht h with ⟨rfl, hx⟩ | ⟨a, len, cap, m, n', D, Pl, rfl, hb, hle, hm, hmm, hx, hall⟩
 ·simp only [y0b] at hx;obtain ⟨rfl, rfl⟩ := hx;exact ⟨zpq .nilvs, hc.symm⟩
 simp only [y0b] at hx;obtain ⟨rfl, rfl⟩ := hx;have hlm : len <= m := by rw [hmm]; split <;> omega
 have el : ∀ i, i < len -> ∃ cs' : List Value, cs'.length = P.cellsOf e /\ (∀ j, j < P.cellsOf e -> w.cell? ((a.add (i * P.cellsOf e)).add j) = some (cs'.getD j undef)) /\ CRel w (fun _ => True) none (f (D i)) cs'.toArray /\ (f (D i)).length = P.cellsOf e := by
  intro i hi;obtain ⟨cs', h1, h2⟩ := hall i (by omega);obtain ⟨h3, h4⟩ := hf _ _ _ _ h2;unfold World.cells? at h1;split at h1
  ·obtain ⟨h5, h6⟩ := zop h1;exact ⟨cs', h5, h6, h3, h4⟩
  ·cases h1
 refine ⟨zpq ?_, hc.symm⟩;have spot : 0 < len -> a = ⟨a.block, a.off, none⟩ := by
  intro h0;obtain ⟨cs', _, h6, _⟩ := el 0 h0;have h7 := h6 0 hs;simp only [y2n, Addr.add, if_true] at h7;obtain ⟨b, o, sp⟩ := a;unfold World.cell? at h7;cases sp with
  | none => rfl
  | some x => split at h7 <;> simp at h7
 show VRel w (fun _ => True) none (.vs (((List.range len).map D).map f)) _;refine .vs (sz := P.cellsOf e) (b := a.block) (off := a.off) (fun i j => (w.cell? ⟨a.block, a.off + i * P.cellsOf e + j, none⟩).getD undef) (by simp) hle (fun hne => ?_) (fun x hx => ?_) (fun i j x y hx hy => ?_) (fun i j x y hx hy => ?_)
 ·have : 0 < len := by
   cases len with
   | zero => simp at hne
   | succ l => omega
  exact congrArg some (spot this)
 ·simp only [y2d, y0p, y0m, Function.comp] at hx;obtain ⟨i, hi, rfl⟩ := hx;obtain ⟨_, _, _, _, h4⟩ := el i hi;exact h4
 all_goals
  have hi : i < len := by have := (y05.1 hx).1; simpa using this
  have hxe : x = f (D i) := by
   simp only [y2d, y0n] at hx;rw [List.getElem?_range hi] at hx;simpa using hx.symm
  subst hxe;obtain ⟨cs', h5, h6, h3, h4⟩ := el i hi;have hj : j < P.cellsOf e := by rw [<- h4]; exact (y05.1 hy).1
  have hcell := h6 j hj;have e0 : (a.add (i * P.cellsOf e)).add j = ⟨a.block, a.off + i * P.cellsOf e + j, none⟩ := by
   rw [spot (by omega), zbm, zbm]
  rw [e0] at hcell
 ·exact ⟨trivial, by rw [hcell]; rfl⟩
 ·have := h3.2 j y hy;rw [hcell];have e1 : cs'.toArray.getD j undef = cs'.getD j undef := by simp [y02, List.getD]
  rw [e1] at this;exact this
def ze1 : List (DataW H -> List AV) -> List (DataW H) -> List AV
 | g :: gs, ds => g (ds.headD .nil) ++ ze1 gs ds.tail
 | [], _ => []
def zbj (gs : List (DataW H -> List AV)) (d : DataW H) : List AV := ze1 gs (zd8 d)
def zkj (P : Program) : List Field -> Nat -> Nat -> Bool
 | [], o, tot => o == tot
 | f :: fl, o, tot => f.offset == o && zkj P fl (o + P.cellsOf f.type) tot
theorem zju {cs : List Value} : ∀ (fl : List Field) (gs : List (DataW H -> List AV)) (xs : List (DataW H × List MemPlace)) (o : Nat), zkj P fl o cs.length = true -> gs.length = fl.length -> xs.length = fl.length ->
  (∀ (i : Nat) (f : Field) (g : DataW H -> List AV) (x : DataW H × List MemPlace), fl[i]? = some f -> gs[i]? = some g -> xs[i]? = some x -> CRel w (fun _ => True) none (g x.1) ((cs.drop f.offset).take (P.cellsOf f.type)).toArray /\ (g x.1).length = P.cellsOf f.type) ->
  o + (ze1 gs (xs.map (·.1))).length = cs.length /\ ∀ (i : Nat) (y : AV), (ze1 gs (xs.map (·.1)))[i]? = some y -> VRel w (fun _ => True) none y (cs.getD (o + i) undef)
 | [], [], [], o, hp, _, _, _ => by
  simp only [zkj, beq_iff_eq] at hp;exact ⟨by simpa [ze1] using hp, fun i y h => by simp [ze1] at h⟩
 | f :: fl, g :: gs, x :: xs, o, hp, h1, h2, h => by
  simp only [zkj, y0g, beq_iff_eq] at hp;obtain ⟨rfl, hp⟩ := hp;obtain ⟨a, b⟩ := h 0 f g x rfl rfl rfl;obtain ⟨c, d⟩ := zju fl gs xs (f.offset + P.cellsOf f.type) hp (by simpa using h1) (by simpa using h2) fun i f' g' x' e1 e2 e3 => h (i + 1) f' g' x' (by simpa using e1) (by simpa using e2) (by simpa using e3);simp only [y1d, ze1, List.headD_cons, List.tail_cons];refine ⟨by rw [y0l, b]; omega, fun i y hy => ?_⟩;by_cases hi : i < P.cellsOf f.type
  ·rw [y0z (by omega)] at hy;have := a.2 i y hy;have e : ((cs.drop f.offset).take (P.cellsOf f.type)).toArray.getD i undef = cs.getD (f.offset + i) undef := by
    simp [y02, List.getD, y13 hi]
   rw [e] at this;exact this
  ·rw [y12 (by omega)] at hy;have := d _ y hy;rw [b] at this;rw [show f.offset + P.cellsOf f.type + (i - P.cellsOf f.type) = f.offset + i from by omega] at this
   exact this
 | [], _ :: _, _, _, _, h1, _, _ => by simp at h1
 | [], [], _ :: _, _, _, _, h2, _ => by simp at h2
 | _ :: _, [], _, _, _, h1, _, _ => by simp at h1
 | _ :: _, _ :: _, [], _, _, _, h2, _ => by simp at h2
theorem zkl {t : TypeId} {fs : Array Field} {gs : List (DataW H -> List AV)} (ht : P.underlying t = some (.struct fs)) (hl : gs.length = fs.size) (hp : zkj P fs.toList 0 (P.cellsOf t) = true)
  (hg : ∀ (i : Nat) (f : Field) (g : DataW H -> List AV), fs[i]? = some f -> gs[i]? = some g -> Rd enc P w base spare held f.type g) : Rd enc P w base spare held t (zbj gs) := by
 intro n cs d p h;obtain ⟨xs, n', _, hx, hlen, hxl, hall⟩ := DataW.trod_struct ht h;simp only [y0b] at hx;obtain ⟨rfl, rfl⟩ := hx;obtain ⟨a, b⟩ := zju (P := P) (w := w) (cs := cs) fs.toList gs xs 0 (by rw [hlen]; exact hp) (by simpa using hl) (by simpa using hxl) fun i f g x e1 e2 e3 => by
  have hi := hall i f (by simpa using e1);rw [e3] at hi;exact hg i f g (by simpa using e1) e2 _ _ _ _ hi
 refine ⟨⟨by simp only [zbj, zd8]; simp; omega, fun i y hy => ?_⟩, by simp only [zbj, zd8]; omega⟩;have := b i y hy;rw [y1b] at this;have e : cs.toArray.getD i undef = cs.getD i undef := by simp [y02, List.getD]
 rw [e]; exact this
end
open Go Go.RowKit
theorem zss {W W' : World} (hB : Below W.heap.size W W') {a : Addr} {v : Value} (h : W.cell? a = some v) : W'.cell? a = some v := by
 unfold World.cell? at h ⊢;have hb : a.block < W.heap.size := by
  cases hw : W.heap[a.block]? with
  | none => rw [hw] at h; cases h
  | some o => exact (y0e.1 hw).1
 rw [hB.block _ hb]; exact h
theorem zdk {α β : Type} {f g : α -> Option β} (h : ∀ x y, f x = some y -> g x = some y) : ∀ {l : List α} {r : List β}, l.mapM f = some r -> l.mapM g = some r
 | [], r, e => e
 | x :: l, r, e => by
  simp only [y29, Option.bind_eq_bind, y0w, Option.pure_def, y00] at e ⊢;obtain ⟨y, hy, r', hr', rfl⟩ := e;exact ⟨y, h x y hy, r', zdk h hr', rfl⟩
theorem zpi {W W' : World} (hB : Below W.heap.size W W') {base n : Nat} {a : Addr} {cs : List Value} (h : W.cells? base a n = some cs) : W'.cells? base a n = some cs := by
 unfold World.cells? at h ⊢;split at h
 ·rename_i hc; rw [if_pos hc]; exact zdk (fun i y hy => zss hB hy) h
 ·cases h
section
variable {H : Type} {enc : TypeId × Value -> H} {P : Program} {W W' : World} {base : Nat} {sp : Nat -> Bool} {held : Bool}
theorem ztg (hB : Below W.heap.size W W') : ∀ (n : Nat) (t : TypeId) (cs : List Value) (x : DataW H × List MemPlace), DataW.trod enc P W base sp held n t cs = some x -> DataW.trod enc P W' base sp held n t cs = some x := by
 intro n
 induction n with
 | zero => intro t cs x h; simp [DataW.trod] at h
 | succ n ih =>
  intro t cs x h;have bnd : ∀ {a : Addr} {k : Nat} {e : TypeId} {y : DataW H × List MemPlace}, (W.cells? base a k).bind (DataW.trod enc P W base sp held n e) = some y -> (W'.cells? base a k).bind (DataW.trod enc P W' base sp held n e) = some y := by
   intro a k e y hy;obtain ⟨cs', h1, h2⟩ := y0w.1 hy;rw [zpi hB h1];exact ih _ _ _ h2
  unfold DataW.trod at h ⊢;split at h;all_goals first
   | exact h
   | skip
  all_goals (try simp only at h ⊢)
  ·obtain ⟨y, hy, rfl⟩ := y03.1 h;rw [bnd hy]; rfl
  ·split at h
   ·rename_i hc;rw [if_pos hc];simp only [y0w, y03] at h ⊢;obtain ⟨elems, he, rest, hr, rfl⟩ := h;refine ⟨elems, zdk (fun i y hy => bnd hy) he, rest, ?_, rfl⟩;split at hr
    ·rename_i hs; rw [if_pos hs]; exact zdk (fun i y hy => bnd hy) hr
    ·rename_i hs; rw [if_neg hs]; exact hr
   ·cases h
  ·split at h
   ·rename_i hc;rw [if_pos hc];obtain ⟨xs, hx, rfl⟩ := y03.1 h;rw [zdk (fun f y hy => ih _ _ _ hy) hx]; rfl
   ·cases h
  ·split at h
   ·rename_i hc;rw [if_pos hc];obtain ⟨xs, hx, rfl⟩ := y03.1 h;rw [zdk (fun f y hy => ih _ _ _ hy) hx]; rfl
   ·cases h
  ·split at h
   ·exact h
   ·obtain ⟨y, hy, rfl⟩ := y03.1 h;rename_i ht;simp only [ih _ _ _ hy]; rfl
   ·cases h
  ·rename_i e b heq;cases hw : W.heap[b]? with
   | none => rw [hw] at h; cases h
   | some o =>
    have hb : b < W.heap.size := (y0e.1 hw).1;rw [hB.block _ hb, hw];rw [hw] at h;cases o with
    | map es clock =>
     simp only at h ⊢;split at h
     ·rename_i hc;rw [if_pos hc];obtain ⟨entries, he, hr⟩ := y0w.1 h;refine y0w.2 ⟨entries, zdk (fun z y hy => ?_) he, hr⟩;obtain ⟨key, hk, hy⟩ := y0w.1 hy;refine y0w.2 ⟨key, hk, ?_⟩;split at hy
      ·rename_i hf;rw [if_pos hf];obtain ⟨q, hq, rfl⟩ := y03.1 hy;rw [ih _ _ _ hq]; rfl
      ·cases hy
     ·cases h
    | _ => cases h
end
theorem zhe {α β : Type} {f g : α -> Option β} : ∀ {l : List α} {r : List β}, l.mapM f = some r -> (∀ x y, y ∈ r -> f x = some y -> g x = some y) -> l.mapM g = some r
 | [], r, e, _ => e
 | x :: l, r, e, h => by
  simp only [y29, Option.bind_eq_bind, y0w, Option.pure_def, y00] at e ⊢;obtain ⟨y, hy, r', hr', rfl⟩ := e;exact ⟨y, h x y (y01 ..) hy, r', zhe hr' fun x' y' hy' => h x' y' (y0a _ hy'), rfl⟩
theorem zi6 {α β : Type} {f g : α -> Option β} : ∀ {l : List α} {r : List β}, l.mapM f = some r -> (∀ x y, x ∈ l -> y ∈ r -> f x = some y -> g x = some y) -> l.mapM g = some r
 | [], r, e, _ => e
 | x :: l, r, e, h => by
  simp only [y29, Option.bind_eq_bind, y0w, Option.pure_def, y00] at e ⊢;obtain ⟨y, hy, r', hr', rfl⟩ := e;exact ⟨y, h x y (y01 ..) (y01 ..) hy, r', zi6 hr' fun x' y' hx' hy' => h x' y' (y0a _ hx') (y0a _ hy'), rfl⟩
def zqg (P : Program) (ok : TypeId -> Bool) (t : TypeId) : Bool :=
 match P.underlying t with
 | some (.slice e) => decide (0 < P.cellsOf e) && ok e
 | some (.pointer e) => ok e
 | some (.array _ e) => ok e
 | some (.map _ e) => ok e
 | some (.struct fs) => fs.toList.all fun f => ok f.type
 | _ => true
def ztr (P : Program) (n : Nat) : Prop := ∀ t, t < n -> zqg P (fun t => decide (t < n)) t = true
theorem solid_of {P : Program} {n : Nat} (h : ((List.range n).all (zqg P fun t => decide (t < n))) = true) : ztr P n := fun t ht =>
 y0h.1 h t (y0m.2 ht)
section
variable {H : Type} {enc : TypeId × Value -> H} {P : Program} {W : World} {base N : Nat} {sp : Nat -> Bool}
theorem zth (hz : ztr P N) : ∀ (n : Nat) (t : TypeId) (cs : List Value) (x : DataW H × List MemPlace), t < N -> DataW.trod enc P W base (fun _ => true) true n t cs = some x -> (∀ p ∈ x.2, sp p.block = true) -> DataW.trod enc P W base sp true n t cs = some x := by
 intro n
 induction n with
 | zero => intro t cs x _ h _; simp [DataW.trod] at h
 | succ n ih =>
  intro t cs x hN h hp;have hs := hz t hN;unfold zqg at hs;have bnd : ∀ {a : Addr} {k : Nat} {e : TypeId} {y : DataW H × List MemPlace}, e < N -> (∀ p ∈ y.2, sp p.block = true) -> (W.cells? base a k).bind (DataW.trod enc P W base (fun _ => true) true n e) = some y -> (W.cells? base a k).bind (DataW.trod enc P W base sp true n e) = some y := by
   intro a k e y he hq hy;obtain ⟨cs', h1, h2⟩ := y0w.1 hy;rw [h1];exact ih _ _ _ he h2 hq
  unfold DataW.trod at h ⊢;split at h;all_goals first
   | exact h
   | skip
  all_goals (try simp only at h ⊢)
  ·rename_i ht;rw [ht] at hs;obtain ⟨y, hy, rfl⟩ := y03.1 h;rw [bnd (by simpa using hs) (fun p hq => hp p (y1a _ hq)) hy]; rfl
  ·rename_i e a len cap ht;rw [ht] at hs;simp only [y0g, decide_eq_true_eq] at hs;obtain ⟨hce, hen⟩ := hs;split at h
   ·rename_i hc;rw [if_pos hc];simp only [y0w, y03, if_true] at h ⊢;obtain ⟨elems, he, rest, hr, rfl⟩ := h;have hel : ∀ y ∈ elems ++ rest, ∀ p ∈ y.2, sp p.block = true := fun y hy p hq => hp p (y1a _ (List.mem_flatMap.2 ⟨y, hy, hq⟩));refine ⟨elems, zhe he fun i y hm hy => bnd hen (hel y (y1f _ hm)) hy, rest, ?_, rfl⟩;have l1 := Lib.mapM_length he;have l2 := Lib.mapM_length hr;simp only [y1v] at l1 l2;by_cases h0 : cap = 0
    ·have : rest = [] := by
      cases rest with
      | nil => rfl
      | cons _ _ => simp at l2; omega
     subst this;subst h0;simp
    ·have hs : sp a.block = true := by
      refine hp (.cell a.block a.off) (y1f _ ?_);have hlt : 0 < (elems.length + rest.length) * P.cellsOf e := Nat.mul_pos (by omega) hce;simp only [MemPlace.row, y0p, y0m];exact ⟨0, hlt, rfl⟩
     rw [if_pos hs];exact zhe hr fun i y hm hy => bnd hen (hel y (y1a _ hm)) hy
   ·cases h
  ·rename_i ht;rw [ht] at hs;split at h
   ·rename_i hc;rw [if_pos hc];obtain ⟨xs, hx, rfl⟩ := y03.1 h;rw [zi6 hx fun f y hf hm hy => ih _ _ _ (by have := y0h.1 hs f hf; simpa using this) hy fun p hq => hp p (List.mem_flatMap.2 ⟨y, hm, hq⟩)]; rfl
   ·cases h
  ·rename_i ht;rw [ht] at hs;split at h
   ·rename_i hc;rw [if_pos hc];obtain ⟨xs, hx, rfl⟩ := y03.1 h;rw [zi6 hx fun f y hf hm hy => ih _ _ _ (by simpa using hs) hy fun p hq => hp p (List.mem_flatMap.2 ⟨y, hm, hq⟩)]; rfl
   ·cases h
  ·rename_i e b heq;rw [heq] at hs;cases hw : W.heap[b]? with
   | none => rw [hw] at h; cases h
   | some o =>
    rw [hw] at h;cases o with
    | map es clock =>
     simp only at h ⊢;split at h
     ·rename_i hc;rw [if_pos hc];obtain ⟨entries, he, hr⟩ := y0w.1 h;have hq : ∀ y ∈ entries, ∀ p ∈ y.2, sp p.block = true := by
       split at hr
       ·have := y2p hr;subst this;exact fun y hy p hq => hp p (y0a _ (List.mem_flatMap.2 ⟨y, hy, hq⟩))
       ·cases hr
      refine y0w.2 ⟨entries, zhe he (fun z y hm hy => ?_), hr⟩;obtain ⟨key, hk, hy⟩ := y0w.1 hy;refine y0w.2 ⟨key, hk, ?_⟩;split at hy
      ·rename_i hf;rw [if_pos hf];obtain ⟨q, hq', rfl⟩ := y03.1 hy;rw [ih _ _ _ (by simpa using hs) hq' (hq _ hm)]; rfl
      ·cases hy
     ·cases h
    | _ => cases h
theorem zhr (hz : ztr P N) {W' : World} (hB : Below W.heap.size W W') : ∀ {ts : List TypeId} {vs : List Value} {ds : List (DataW H)} {ps : List MemPlace}, (∀ t ∈ ts, t < N) -> DataW.TrodAll enc P W base (fun _ => true) true ts vs ds ps -> (∀ p ∈ ps, sp p.block = true) -> DataW.TrodAll enc P W' base sp true ts vs ds ps
 | [], [], [], ps, _, h, _ => h
 | t :: ts, v :: vs, d :: ds, ps, hN, h, hp => by
  obtain ⟨p, q, ⟨n, h1⟩, h2, rfl⟩ := h;exact ⟨p, q, ⟨n, ztg hB _ _ _ _ (zth hz _ _ _ _ (hN t (y01 ..)) h1 fun z hq => hp z (y1f _ hq))⟩, zhr hz hB (fun u hu => hN u (y0a _ hu)) h2 fun z hq => hp z (y1a _ hq), rfl⟩
 | [], [], _ :: _, _, _, h, _ => h.elim
 | [], _ :: _, _, _, _, h, _ => h.elim
 | _ :: _, [], _, _, _, h, _ => h.elim
 | _ :: _, _ :: _, [], _, _, h, _ => h.elim
end
section
variable {H : Type} {enc : TypeId × Value -> H} {P : Program} {w : World} {base : Nat} {spare : Nat -> Bool} {held : Bool}
theorem zqb {t e : TypeId} {f : DataW H -> List AV} (ht : P.underlying t = some (.slice e)) (hc : P.cellsOf t = 1) (hs : 0 < P.cellsOf e) {n : Nat} {cs : List Value} {d : DataW H} {p : List MemPlace} (h : DataW.trod enc P w base spare held n t cs = some (d, p))
  (hf : ∀ d', d' ∈ zc8 d -> ∀ n cs p, DataW.trod enc P w base spare held n e cs = some (d', p) -> CRel w (fun _ => True) none (f d') cs.toArray /\ (f d').length = P.cellsOf e) : CRel w (fun _ => True) none (zbr f d) cs.toArray /\ (zbr f d).length = P.cellsOf t := by
 rcases Deep.open_slice ht h with ⟨rfl, hx⟩ | ⟨a, len, cap, m, n', D, Pl, rfl, hb, hle, hm, hmm, hx, hall⟩
 ·simp only [y0b] at hx;obtain ⟨rfl, rfl⟩ := hx;exact ⟨zpq .nilvs, hc.symm⟩
 simp only [y0b] at hx;obtain ⟨rfl, rfl⟩ := hx;have hlm : len <= m := by rw [hmm]; split <;> omega
 have el : ∀ i, i < len -> ∃ cs' : List Value, cs'.length = P.cellsOf e /\ (∀ j, j < P.cellsOf e -> w.cell? ((a.add (i * P.cellsOf e)).add j) = some (cs'.getD j undef)) /\ CRel w (fun _ => True) none (f (D i)) cs'.toArray /\ (f (D i)).length = P.cellsOf e := by
  intro i hi;obtain ⟨cs', h1, h2⟩ := hall i (by omega);obtain ⟨h3, h4⟩ := hf (D i) (by show D i ∈ (List.range len).map D; exact y0p.2 ⟨i, y0m.2 hi, rfl⟩) _ _ _ h2
  unfold World.cells? at h1;split at h1
  ·obtain ⟨h5, h6⟩ := zop h1;exact ⟨cs', h5, h6, h3, h4⟩
  ·cases h1
 refine ⟨zpq ?_, hc.symm⟩;have spot : 0 < len -> a = ⟨a.block, a.off, none⟩ := by
  intro h0;obtain ⟨cs', _, h6, _⟩ := el 0 h0;have h7 := h6 0 hs;simp only [y2n, Addr.add, if_true] at h7;obtain ⟨b, o, sp⟩ := a;unfold World.cell? at h7;cases sp with
  | none => rfl
  | some x => split at h7 <;> simp at h7
 show VRel w (fun _ => True) none (.vs (((List.range len).map D).map f)) _;refine .vs (sz := P.cellsOf e) (b := a.block) (off := a.off) (fun i j => (w.cell? ⟨a.block, a.off + i * P.cellsOf e + j, none⟩).getD undef) (by simp) hle (fun hne => ?_) (fun x hx => ?_) (fun i j x y hx hy => ?_) (fun i j x y hx hy => ?_)
 ·have : 0 < len := by
   cases len with
   | zero => simp at hne
   | succ l => omega
  exact congrArg some (spot this)
 ·simp only [y2d, y0p, y0m, Function.comp] at hx;obtain ⟨i, hi, rfl⟩ := hx;obtain ⟨_, _, _, _, h4⟩ := el i hi;exact h4
 all_goals
  have hi : i < len := by have := (y05.1 hx).1; simpa using this
  have hxe : x = f (D i) := by
   simp only [y2d, y0n] at hx;rw [List.getElem?_range hi] at hx;simpa using hx.symm
  subst hxe;obtain ⟨cs', h5, h6, h3, h4⟩ := el i hi;have hj : j < P.cellsOf e := by rw [<- h4]; exact (y05.1 hy).1
  have hcell := h6 j hj;have e0 : (a.add (i * P.cellsOf e)).add j = ⟨a.block, a.off + i * P.cellsOf e + j, none⟩ := by
   rw [spot (by omega), zbm, zbm]
  rw [e0] at hcell
 ·exact ⟨trivial, by rw [hcell]; rfl⟩
 ·have := h3.2 j y hy;rw [hcell];have e1 : cs'.toArray.getD j undef = cs'.getD j undef := by simp [y02, List.getD]
  rw [e1] at this;exact this
theorem zp2 {t : TypeId} {fs : Array Field} {gs : List (DataW H -> List AV)} (ht : P.underlying t = some (.struct fs)) (hl : gs.length = fs.size) (hp : zkj P fs.toList 0 (P.cellsOf t) = true) {n : Nat} {cs : List Value} {d : DataW H} {p : List MemPlace} (h : DataW.trod enc P w base spare held n t cs = some (d, p))
  (hg : ∀ (i : Nat) (f : Field) (g : DataW H -> List AV) (d' : DataW H), fs[i]? = some f -> gs[i]? = some g -> (zd8 d)[i]? = some d' -> ∀ n cs p, DataW.trod enc P w base spare held n f.type cs = some (d', p) -> CRel w (fun _ => True) none (g d') cs.toArray /\ (g d').length = P.cellsOf f.type) : CRel w (fun _ => True) none (zbj gs d) cs.toArray /\ (zbj gs d).length = P.cellsOf t := by
 obtain ⟨xs, n', _, hx, hlen, hxl, hall⟩ := DataW.trod_struct ht h;simp only [y0b] at hx;obtain ⟨rfl, rfl⟩ := hx;obtain ⟨a, b⟩ := zju (P := P) (w := w) (cs := cs) fs.toList gs xs 0 (by rw [hlen]; exact hp) (by simpa using hl) (by simpa using hxl) fun i f g x e1 e2 e3 => by
  have hi := hall i f (by simpa using e1);rw [e3] at hi;exact hg i f g x.1 (by simpa using e1) e2 (by show (xs.map (·.1))[i]? = _; rw [y0n, e3]; rfl) _ _ _ hi
 refine ⟨⟨by simp only [zbj, zd8]; simp; omega, fun i y hy => ?_⟩, by simp only [zbj, zd8]; omega⟩;have := b i y hy;rw [y1b] at this;have e : cs.toArray.getD i undef = cs.getD i undef := by simp [y02, List.getD]
 rw [e]; exact this
end
section
variable {H : Type} (enc : TypeId × Value -> H) (P : Program) (w : World)
def ArgR (t : TypeId) (h : DataW H -> AV) : Prop :=
 ∀ base n v d p, Value.okWide P w .any base t v -> DataW.trod enc P w 0 (fun _ => true) true n t v.cells.toList = some (d, p) -> VRel w (fun _ => True) none (h d) v
end
section
variable {H : Type} {enc : TypeId × Value -> H} {P : Program} {w : World}
def oneA (g : DataW H -> List AV) (d : DataW H) : AV := (g d).headD .top
def aggA (g : DataW H -> List AV) (d : DataW H) : AV := .agg (g d)
theorem zqq {t : TypeId} {fs : Array Field} {g : DataW H -> List AV} (ht : P.underlying t = some (.struct fs)) (hg : Rd enc P w 0 (fun _ => true) true t g) : ArgR enc P w t (aggA g) := by
 intro base n v d p hv h;unfold Value.okWide at hv;rw [ht] at hv;obtain ⟨cs, rfl, _, _⟩ := hv;obtain ⟨h1, h2⟩ := hg _ _ _ _ h;have e : (Value.agg cs).cells.toList.toArray = cs := by simp [Value.cells]
 rw [e] at h1;exact .agg h1.1 h1.2
theorem argR_one {t : TypeId} {g : DataW H -> List AV} (ht : match P.underlying t with | some (.int _) | some .bool | some .string | some (.slice _) => True | _ => False) (hc : P.cellsOf t = 1) (hg : Rd enc P w 0 (fun _ => true) true t g) : ArgR enc P w t (oneA g) := by
 intro base n v d p hv h;have hcell : v.cells.toList = [v] := by
  have key : ∀ cs, v ≠ .agg cs := by
   rintro cs rfl;unfold Value.okWide Cell.okWide Cell.ok at hv;cases hu : P.underlying t with
   | none => rw [hu] at ht; exact ht
   | some u =>
    rw [hu] at ht hv;cases u <;> first | exact ht | exact hv
  cases v with
  | agg cs => exact absurd rfl (key cs)
  | _ => rfl
 rw [hcell] at h;obtain ⟨h1, h2⟩ := hg _ _ _ _ h;rw [hc] at h2;cases hd : g d with
 | nil => rw [hd] at h2; cases h2
 | cons x l =>
  rw [hd] at h1;have := h1.2 0 x rfl;unfold oneA;rw [hd];exact this
def avs : List (DataW H -> AV) -> List (DataW H) -> List AV
 | h :: hs, d :: ds => h d :: avs hs ds
 | _, _ => []
theorem zqt : ∀ {ts : List TypeId} {hs : List (DataW H -> AV)} {vs : List Value} {ds : List (DataW H)} {ps : List MemPlace} {base : Nat}, (∀ (j : Nat) t, ts[j]? = some t -> ∃ h, hs[j]? = some h /\ ArgR enc P w t h) -> hs.length = ts.length ->
  (∀ (j : Nat) t v, ts[j]? = some t -> vs[j]? = some v -> Value.okWide P w .any base t v) -> DataW.TrodAll enc P w 0 (fun _ => true) true ts vs ds ps ->
  vs.length = (avs hs ds).length /\ ds.length = ts.length /\ ∀ (i : Nat) (x : AV) (u : Value), (avs hs ds)[i]? = some x -> vs[i]? = some u -> VRel w (fun _ => True) none x u
 | [], [], [], [], ps, _, _, _, _, _ => ⟨rfl, rfl, fun i x u hx => by simp [avs] at hx⟩
 | t :: ts, h :: hs, v :: vs, d :: ds, ps, base, hr, hl, hv, ha => by
  obtain ⟨p, q, ⟨n, h1⟩, h2, rfl⟩ := ha;obtain ⟨a, b, c⟩ := zqt (ts := ts) (hs := hs) (vs := vs) (ds := ds) (base := base) (fun j t ht => hr (j + 1) t (by simpa using ht)) (by simpa using hl) (fun j t v e1 e2 => hv (j + 1) t v (by simpa using e1) (by simpa using e2)) h2;obtain ⟨h', e, har⟩ := hr 0 t rfl;simp at e; subst e;refine ⟨by simp only [avs, y19, a], by simp only [y19, b], fun i x u hx hu => ?_⟩
  match i with
  | 0 => simp only [avs, y1h, y00] at hx hu; subst hx hu; exact har _ _ _ _ _ (hv 0 t v rfl rfl) h1
  | i + 1 => exact c i x u (by simpa [avs] using hx) (by simpa using hu)
 | [], _ :: _, _, _, _, _, _, hl, _, _ => by simp at hl
 | _ :: _, [], _, _, _, _, _, hl, _, _ => by simp at hl
 | [], [], [], _ :: _, _, _, _, _, _, h => h.elim
 | [], [], _ :: _, _, _, _, _, _, _, h => h.elim
 | _ :: _, _ :: _, [], _, _, _, _, _, _, h => h.elim
 | _ :: _, _ :: _, _ :: _, [], _, _, _, _, _, h => h.elim
theorem zoj {f : FuncId} {fn : Func} {s : ChangeSpec} {apart : Bool} {tb : TypeId} {W : World} {base : Nat} {args : Array Value} {ds gs : List (DataW H)} {before : List MemPlace} {hs : List (DataW H -> AV)}
  (hv : s.vars = []) (hres : fn.resultTypes = #[tb]) (hb : P.underlying tb = some .bool) {N : Nat} (hz : ztr P N) (hN : ∀ t ∈ fn.params.toList, t < N) (hg : GOk (fun _ => True) W)
  (har : ∀ (j : Nat) t, fn.params[j]? = some t -> ∃ h, hs[j]? = some h /\ ArgR enc P W t h) (hl : hs.length = fn.params.size)
  (hspec : ∀ ds : List (DataW H), ds.length = fn.params.size -> s.fn H ds = { results := [.lit (.bool true)], args := ds })
  (hval : ∀ (j : Nat) t v, fn.params[j]? = some t -> args[j]? = some v -> Value.okWide P W .any base t v)
  (hW : DataW.Whole enc P fn.params.toList s.vars apart W args.toList ds gs before)
  (hp : ∀ ps, DataW.TrodAll enc P W 0 (fun _ => true) true fn.params.toList args.toList ds ps -> PF P f (avs hs ds) (.bool true)) :
  Calls P f args W fun e W' => ∃ v, e = .returned v /\ s.post enc P fn apart true false false W args v W' := by
 have hW' := hW;obtain ⟨p, q, hA, hV, rfl, hfz, hnd⟩ := hW;rw [hv] at hV;obtain ⟨rfl, rfl⟩ := trodVars_none hV;obtain ⟨h1, h2, h3⟩ := zqt (hs := hs) (base := base) (fun j t e => har j t (by simpa using e)) (by simpa using hl) (fun j t v e1 e2 => hval j t v (by simpa using e1) (by simpa using e2)) hA;have hrel : CRel W (fun _ => True) none (avs hs ds) args := by
  have := zuw h1 h3;simpa using this
 have hsp := hspec ds (by simpa using h2);refine (zsp (hp _ hA) hg hrel).mono fun e W' ⟨he, hB⟩ => ?_;subst he;refine ⟨_, rfl, zt8 (pa := p) (pv := []) hW' ?_ ?_ ?_ rfl hB ?_⟩
 ·intro b sp hd;rw [y0s, hsp, hres];exact trodAll_cons_mk (shut_bool hb true) trodAll_mk0
 ·intro sp hsp';rw [y0s, hsp];exact zhr hz hB hN hA fun z hz' => hsp' z (y1f _ hz')
 ·intro sp _;rw [hv, y0s, hsp];rfl
 ·rw [hres];have := ok_one (P := P) (W' := W') (v := .bool true) hres rfl (okWide_bool_mk hb true);rw [hres] at this;exact this
end
def Post0 (w0 : World) (N0 : Nat) (I : LI) (Q : Exit -> AS -> Prop) (e : Exit) (a' : Act) (w' : World) : Prop := ∃ I' S', Q e S' /\ Rel w0 N0 I' S' a' w' /\ I'.ok = I.ok
def T0 (P : Program) (w0 : World) (N0 : Nat) (ic : IC) (S : AS) (Q : Exit -> AS -> Prop) : Prop :=
 ∀ code, Com P code ic -> ∀ n I a w, Rel w0 N0 I S a w -> code.wpIn (Wd none) n P (Post0 w0 N0 I Q) a w
def Sub0 (w0 : World) (N0 : Nat) (S S' : AS) : Prop := ∀ I a w, Rel w0 N0 I S a w -> ∃ I', Rel w0 N0 I' S' a w /\ I'.ok = I.ok
section
variable {P : Program} {w0 : World} {N0 : Nat} {S S' : AS} {Q Q' : Exit -> AS -> Prop}
theorem Sub0.refl : Sub0 w0 N0 S S := fun I _ _ h => ⟨I, h, rfl⟩
theorem Sub.sub0 (h : Sub w0 N0 S S') : Sub0 w0 N0 S S' := fun I a w hr => by
 obtain ⟨I', h1, h2⟩ := h I a w hr;exact ⟨I', h1, h2.ok⟩
theorem ztt {ic : IC} (h : T P w0 N0 none ic S Q) : T0 P w0 N0 ic S Q := fun code hc n I a w hr =>
 wpIn_mono (h code hc n I a w none hr trivial) fun _ _ _ ⟨I', S', q, x, y⟩ => ⟨I', S', q, x, y.ok⟩
theorem zts {ic : IC} (h : T0 P w0 N0 ic S Q) (hq : ∀ e S', Q e S' -> Q' e S') : T0 P w0 N0 ic S Q' := fun code hc n I a w hr =>
 wpIn_mono (h code hc n I a w hr) fun _ _ _ ⟨I', S', q, x⟩ => ⟨I', S', hq _ _ q, x⟩
theorem T0_sub {ic : IC} (hs : Sub0 w0 N0 S S') (h : T0 P w0 N0 ic S' Q) : T0 P w0 N0 ic S Q := fun code hc n I a w hr => by
 obtain ⟨I', h1, h2⟩ := hs I a w hr;exact wpIn_mono (h code hc n I' a w h1) fun _ _ _ ⟨I'', S'', q, x, y⟩ => ⟨I'', S'', q, x, y.trans h2⟩
def QSeq0 (P : Program) (w0 : World) (N0 : Nat) (y : IC) (Q : Exit -> AS -> Prop) : Exit -> AS -> Prop
 | .normal, S => T0 P w0 N0 y S Q
 | e, S => Q e S
theorem T0_seq {x y : IC} (h : T0 P w0 N0 x S (QSeq0 P w0 N0 y Q)) : T0 P w0 N0 (.seq x y) S Q := fun code hc n I a w hr => by
 cases hc with
 | seq h1 h2 =>
  refine wpIn_seq (wpIn_mono (h _ h1 n I a w hr) fun e a' w' ⟨I', S', q, x, y⟩ => ?_);cases e with
  | normal => exact wpIn_mono (q _ h2 n I' a' w' x) fun _ _ _ ⟨I'', S'', q', x', y'⟩ => ⟨I'', S'', q', x', y'.trans y⟩
  | _ => exact ⟨I', S', q, x, y⟩
theorem T0_cond {c : Arg} {x y : IC} {t : Bool} (hc : S.arg c = some (.bool t)) (h : T0 P w0 N0 (if t then x else y) S Q) : T0 P w0 N0 (.cond c x y) S Q := fun code hcom n I a w hr => by
 cases hcom with
 | @cond c' a' b' _ _ _ h0 h1 h2 =>
  have hv := hr.arg h0 hc;generalize he : a.eval c' = u at hv;cases hv;refine wpIn_cond he ?_;cases t
  ·exact h _ h2 n I a w hr
  ·exact h _ h1 n I a w hr
theorem T0_block {id : Nat} {x : IC} (h : T0 P w0 N0 x S (zla id Q)) : T0 P w0 N0 (.block id x) S Q := fun code hcom n I a w hr => by
 cases hcom with
 | block h1 =>
  refine wpIn_block (wpIn_mono (h _ h1 n I a w hr) fun e a' w' ⟨I', S', q, x, y⟩ => ?_);cases e with
  | exit i =>
   simp only [zla] at q;simp only [Exit.inBlock];split
   ·rename_i hi; rw [if_pos hi] at q; exact ⟨I', S', q, x, y⟩
   ·rename_i hi; rw [if_neg hi] at q; exact ⟨I', S', q, x, y⟩
  | _ => exact ⟨I', S', q, x, y⟩
def QLoop0 (w0 : World) (N0 : Nat) (J : Nat -> AS -> Prop) (m : Nat) (Q : Exit -> AS -> Prop) : Exit -> AS -> Prop
 | .normal, S => ∃ m' S', m' < m /\ Sub0 w0 N0 S S' /\ J m' S'
 | e, S => Q e S
theorem T0_loop {x : IC} (J : Nat -> AS -> Prop) {m : Nat} (h0 : J m S) (hround : ∀ m S, J m S -> T0 P w0 N0 x S (QLoop0 w0 N0 J m Q)) : T0 P w0 N0 (.loop x) S Q := fun code hcom n I a w hr => by
 cases hcom with
 | @loop c _ h1 =>
  intro b k cs hro hb hroom;have key : ∀ m S I₁ a₁ w₁, J m S -> Rel w0 N0 I₁ S a₁ w₁ -> I₁.ok = I.ok ->
    ∃ e a' w', Post0 w0 N0 I Q e a' w' /\ ArrivesIn (Machine.fenced P (Wd none)) P (lone (b.atR a₁ (.code c :: .inLoop c :: k)) cs w₁) b k cs e a' w' := by
   intro m
   induction m using Nat.strongRecOn with
   | _ m ih =>
    intro S I₁ a₁ w₁ hJ hr₁ hE;obtain ⟨e, a₂, w₂, ⟨I₂, S₂, q, x, y⟩, harr⟩ := hround m S hJ c h1 n I₁ a₁ w₁ hr₁ b (.inLoop c :: k) cs hro hb hroom;have y := y.trans hE;cases e with
    | normal =>
     obtain ⟨m', S', hlt, hs, hJ'⟩ := q;obtain ⟨I₃, x3, y3⟩ := hs _ _ _ x;obtain ⟨e, a₃, w₃, hq, harr'⟩ := ih m' hlt S' I₃ a₂ w₂ hJ' x3 (y3.trans y);exact ⟨e, a₃, w₃, hq, .of_steps (StepsIn.trans harr (.one (fenced_calm (fr := b.atR a₂ (.inLoop c :: k)) hb hroom rfl) stepR_inLoop)) harr'⟩
    | exit id => exact ⟨_, a₂, w₂, ⟨I₂, S₂, q, x, y⟩, .pass (x := .inLoop c) rfl (fun _ _ => .inl (by simp)) harr⟩
    | goto l => exact ⟨_, a₂, w₂, ⟨I₂, S₂, q, x, y⟩, .pass (x := .inLoop c) rfl (fun _ _ => .inl (by simp)) harr⟩
    | ret => exact ⟨_, a₂, w₂, ⟨I₂, S₂, q, x, y⟩, .pass (x := .inLoop c) rfl (fun _ _ => .inl (by simp)) harr⟩
    | panic ch => exact ⟨_, a₂, w₂, ⟨I₂, S₂, q, x, y⟩, .pass (x := .inLoop c) rfl (fun _ _ => .inl (by simp)) harr⟩
    | outgrown => exact ⟨_, a₂, w₂, ⟨I₂, S₂, q, x, y⟩, .pass (x := .inLoop c) rfl (fun _ _ => .inl (by simp)) harr⟩
  obtain ⟨e, a', w', hq, harr⟩ := key m S I a w h0 hr rfl;exact ⟨e, a', w', hq, .of_steps (.one (fenced_calm hb hroom rfl) stepR_loop) harr⟩
theorem PF_of_T0 {f : FuncId} {fn : Func} {code : Code} {ic : IC} {ras : List RA} {args : List AV} {v : AV} (hf : P.funcs[f]? = some fn) (hb : fn.body = some code) (hc : zh5 P code = some ic) (he : Ent P f)
  (hn : args.length <= fn.ntmps) (hres : zff P fn.results.toList = some ras)
  (h : ∀ w0 N0, T0 P w0 N0 ic (AS.enter fn.ntmps args ⟨[], 0, 0⟩) (fun e S' => (e = .normal \/ e = .ret) /\ ∃ v0, S'.leave.res ras = some v0 /\ (⟨0, .nil, S'.leave.heap, S'.leave.next, S'.leave.clk, []⟩ : AS).view VD v0 = v)) : PF P f args v := by
 refine ⟨he, fun ro w us hglob hargs => ?_⟩
 let I : LI := { loc := fun _ _ => none, clk := 0, ok := fun b => ro b \/ w.heap.size <= b }
 have hro : ∀ b, ro b -> I.ro b := fun b hb => ⟨.inl hb, fun id st base n hl => by cases hl⟩
 have hH : HRel w w.heap.size I [] 0 w := by
  refine ⟨Below.refl _ _, y08 _, ?_, ?_, ?_, ?_, ?_, ?_, hglob.mono fun b i x hb hc => ⟨hro b hb, hc⟩⟩
  ·intro id st o e; simp [zeg] at e
  ·intro id st l e; cases e
  ·intro id st b base n id' st' base' n' e; cases e
  ·intro id st b base n e; cases e
  ·intro id _; rfl
  ·intro b hb; exact .inr hb
 have hargs' : CRel w I.ro (some I) args us := ⟨hargs.1, fun i x hx => (hargs.2 i x hx).mono (fun b i x hb hc => ⟨hro b hb, hc⟩) trivial⟩
 refine zjm (r := none) (n := 0) (callsIn_of_wp_marks hf hb (Wd_fn none f) ?_ rfl);have hR : Rel w w.heap.size I (AS.enter fn.ntmps args ⟨[], 0, 0⟩) { tmps := us ++ Array.replicate (fn.ntmps - us.size) undef, defers := [] } w := by
  refine ⟨rfl, ⟨?_, fun i v hv => ?_⟩, hH, ⟨rfl, fun i id st d e => by simp [AS.enter] at e, by simp [AS.enter]⟩⟩
  ·simp [AS.enter]; have := hargs.1; omega
  ·obtain ⟨_, hv⟩ := zkb _ _ _ _ hv;simp only [Nat.sub_zero] at hv;have hlt : i < us.size := by rw [hargs.1]; exact (y05.1 hv).1
   have : (us ++ Array.replicate (fn.ntmps - us.size) undef).getD i undef = us.getD i undef := by
    simp only [y02];rw [Array.getElem?_append_left hlt]
   simp only;rw [this];exact hargs'.2 i v hv
 refine wpIn_mono (h w w.heap.size code (zr4 hc) 0 I _ w hR) fun e a' w' ⟨I', S', ⟨hex, v0, hv, hq⟩, hR', hE⟩ => ?_;have fin : LeavesInM (Wd none) 0 P fn a'.tmps (fun e w' => ∃ u, e = .returned u /\ Below w.heap.size w w' /\ VRel w' (fun b => ro b \/ w.heap.size <= b) none v u) a'.defers .returning w' := by
  refine zol S'.marks a'.defers I' w' S'.heap hR'.hrel hR'.marks hR'.tmps fun I'' w'' k1 k2 k3 k4 => ?_;have hR'' : Rel w w.heap.size I'' S'.leave { tmps := a'.tmps, defers := [] } w'' := ⟨by rw [k4]; exact hR'.clk, k2, k1, ⟨rfl, fun i id st d e => by simp [AS.leave] at e, by simp [AS.leave]⟩⟩
  obtain ⟨u, r1, r2⟩ := zwo hR'' hres hv;refine ⟨u, r1, u, rfl, k1.below, ?_⟩;have := znl (S := ⟨0, .nil, S'.leave.heap, S'.leave.next, S'.leave.clk, []⟩) k1 VD r2;rw [hq, k3.ok, hE] at this;exact this
 rcases hex with rfl | rfl
 ·exact fin
 ·exact fin
end
section
variable (P : Program) (w0 : World) (N0 : Nat)
structure WpZ (ic : IC) (S : AS) (K : Exit -> AS -> Prop) : Prop where
 ok : T0 P w0 N0 ic S K
end
section
variable {P : Program} {w0 w : World} {N0 : Nat} {S S' : AS}
inductive RenV (live : List (Nat × Nat × List AV)) : AV -> AV -> Prop
 | same {v} (h : hasM v = false) : RenV live v v
 | top {v} : RenV live v .top
 | mptr {id st off k cs} (h : live[k]? = some (id, st, cs)) : RenV live (.mptr id st off) (.mptr k 0 off)
 | ms {id st sz off len cap k cs} (h : live[k]? = some (id, st, cs)) : RenV live (.ms id st sz off len cap) (.ms k 0 sz off len cap)
 | agg {xs ys : List AV} (hl : ys.length = xs.length) (h : ∀ (i : Nat) (x y : AV), xs[i]? = some x -> ys[i]? = some y -> RenV live x y) : RenV live (.agg xs) (.agg ys)
 | fn {f : FuncId} {xs ys cs ds : List AV} (hl : ys.length = xs.length) (hc : ds.length = cs.length) (h : ∀ (i : Nat) (x y : AV), xs[i]? = some x -> ys[i]? = some y -> RenV live x y) (k : ∀ (i : Nat) (x y : AV), cs[i]? = some x -> ds[i]? = some y -> RenV live x y) : RenV live (.fn f xs cs) (.fn f ys ds)
theorem zjc {w : World} {ro : Nat -> Prop} {L : Option LI} {v : AV} {u : Value} (h : VRel w ro L v u) : hasM v = false -> VRel w ro none v u := by
 induction h with
 | mptr => intro hm; simp [hasM] at hm
 | ms => intro hm; simp [hasM] at hm
 | yield => intro hm; simp [hasM] at hm
 | mapv => intro hm; simp [hasM] at hm
 | agg h1 _ ih => intro hm; exact .agg h1 fun i x hx => ih i x hx (zbs hm i x hx)
 | tup h1 _ ih => intro hm; exact .tup h1 fun i x hx => ih i x hx (zbs hm i x hx)
 | fn h1 h2 _ _ ihf ihc =>
  intro hm;simp only [hasM, y1x] at hm;exact .fn h1 h2 (fun i x hx => ihf i x hx (zbs hm.1 i x hx)) fun i x hx => ihc i x hx (zbs hm.2 i x hx)
 | top => intro _; exact .top
 | bool => intro _; exact .bool
 | int => intro _; exact .int
 | str => intro _; exact .str
 | nilp => intro _; exact .nilp
 | vptr us hc hv _ => intro _; exact .vptr us hc hv
 | nils => intro _; exact .nils
 | nil0 => intro _; exact .nil0
 | vs us a b c d e f _ => intro _; exact .vs us a b c d e f
 | nilf => intro _; exact .nilf
 | rng a b => intro _; exact .rng a b
 | ints a => intro _; exact .ints a
 | strA a b c => intro _; exact .strA a b c
end
section
variable {S : AS}
theorem wrap_nat (n : Nat) (h : n < 4611686018427387904) : IntKind.wrap .i64 (n : Int) = (n : Int) := wrap_small _ (by omega) (by omega)
theorem za7 (n : Nat) (h : n < 9223372036854775807) : IntKind.wrap .i64 ((n : Int) + 1) = ((n + 1 : Nat) : Int) := by
 rw [wrap_small _ (by omega) (by omega)]; omega
theorem zn1 {sz bytes : Nat} {z : List AV} {s x : Arg} {xv : AV} {es : List (List AV)} {id st len : Nat} {cs : List AV} (hs : S.arg s = some (.ms id st sz 0 len none)) (hx : S.arg x = some xv) (he : S.elems sz xv = some es) (hne : es.length ≠ 0)
  (hc : es.flatten.all AV.isCell = true) (hb : bytes <= 16777216) (hl : look id S.heap = some (st, .cells cs)) (h1 : len * sz = cs.length) (h2 : len + es.length <= 1048576) :
  iop S (.append sz bytes z s x) = some (.ms id S.clk sz 0 (len + es.length) none, { S with heap := zap id (S.clk, .cells (cs ++ es.flatten)) S.heap, clk := S.clk + 1 }) := by
 have e1 : zuz (len * sz) (cs.drop 0) = cs := by
  rw [ziz, y26, h1, y1t]
 simp only [iop, hs, hx, he];unfold zbv;rw [if_neg hne, if_pos ⟨hc, hb⟩];simp only [hl];rw [if_pos ⟨trivial, trivial, by omega, h2⟩, e1]
theorem zpy {sz : Nat} {x i : Arg} {id st off len : Nat} {cap : Option Nat} {k : IntKind} {n : Int} (hx : S.arg x = some (.ms id st sz off len cap)) (hi : S.arg i = some (.int k n)) (h0 : 0 <= n) (hn : n < len) : iop S (.idxs sz x i) = some (.mptr id st (off + n.toNat * sz), S) := by
 simp only [iop, hx, hi];rw [if_pos ⟨trivial, h0, hn⟩]
end
theorem zlh {sz : Nat} : ∀ {xs : List (List AV)}, (∀ x ∈ xs, x.length = sz) -> zdg sz xs.length xs.flatten = xs
 | [], _ => rfl
 | x :: xs, h => by
  have hx := h x (y01 ..);simp only [y19, zdg, y1c];rw [List.take_append_of_le_length (by omega), <- hx, y1t, List.drop_left, hx, zlh fun y hy => h y (y0a _ hy)]
theorem zjw {sz : Nat} : ∀ {xs : List (List AV)}, (∀ x ∈ xs, x.length = sz) -> xs.flatten.length = xs.length * sz
 | [], _ => by simp
 | x :: xs, h => by
  have hx := h x (y01 ..);have := zjw fun y hy => h y (y0a _ hy);simp only [y1c, y0l, this, y19, y23];omega
def zah : Nat -> List (Nat × AV) -> Option AV
 | _, [] => none
 | d, (k, v) :: l => match Nat.beq k d with
  | true => some v
  | false => zah d l
theorem zd4 (d : Nat) : ∀ l : List (Nat × AV), zao d (zet l) = zah d l
 | [] => zdq d
 | (k, v) :: l => by
  simp only [zet, zcc, zah, zd4 d l];exact (zqu d k (some v) (zah d l)).symm
def st (n : Nat) (l : List (Nat × AV)) (hp : List (Nat × Nat × AObj)) (nx ck : Nat) (mk : List (Nat × Nat) := []) : AS := ⟨n, zet l, hp, nx, ck, mk⟩
def zar : Arg -> List (Nat × AV) -> Option AV
 | .t n, l => zah n l
 | .c v, _ => some v
def zeo : List Arg -> List (Nat × AV) -> Option (List AV)
 | [], _ => some []
 | a :: as, l => match zar a l, zeo as l with
  | some v, some vs => some (v :: vs)
  | _, _ => none
def oargA : Option Arg -> List (Nat × AV) -> Option (Option AV)
 | none, _ => some none
 | some a, l => match zar a l with
  | some v => some (some v)
  | none => none
def ze9 : List (Nat × Nat × Arg) -> List (Nat × AV) -> Option (List (Nat × AV))
 | [], _ => some []
 | (off, size, a) :: ps, l => match zar a l, ze9 ps l with
  | some v, some r => match v.cells? with
   | some vs => if vs.length = size then some ((off, v) :: r) else none
   | none => none
  | _, _ => none
def zim (hp : List (Nat × Nat × AObj)) (nx : Nat) : AV -> Option (List AV)
 | .vptr cs => some cs
 | .mptr id sp off => match look id hp with
  | some (sp', .cells cs) => if sp' = sp /\ id < nx then some (cs.drop off) else none
  | some (sp', .typed _ _ cs) => if sp' = sp /\ id < nx then some (cs.drop off) else none
  | _ => none
 | _ => none
structure Kn where
 pf : FuncId -> List AV -> AV -> Prop
 ct : AV -> List AV -> HS -> (AV -> HS -> Prop) -> Prop
 ld : Nat -> Bool
 sd : Nat -> Bool
 ex : Option Nat -> IOp -> AS -> (AS -> AV -> Prop) -> Prop
 fs : Bool
abbrev KnP (P : Program) (w0 : World) (N0 : Nat) : Kn := ⟨PF P, CT P w0 N0, fun _ => true, fun _ => true, fun d op S Fk => ∀ rd g, Stp P w0 N0 rd ⟨d, op, g⟩ S Fk, false⟩
abbrev KnD (lk : FuncId -> List AV -> Option AV) (ld sd : Nat -> Bool) : Kn := ⟨fun f as v => lk f as = some v, fun _ _ _ _ => False, ld, sd, fun _ _ _ _ => False, false⟩
abbrev KnL (lk : FuncId -> List AV -> Option AV) : Kn := KnD lk (fun _ => true) fun _ => true
def opsP (fs : Bool) (ld sd : Nat -> Prop) (S : AS) : IOp -> Prop
 | .bslice .. => fs = false
 | op => ziv ld sd S op
theorem zwg {fs : Bool} {ld sd : Nat -> Prop} {S : AS} {op : IOp} (h : opsP fs ld sd S op) : ziv ld sd S op := by
 cases op <;> first
  | exact h
  | exact trivial
abbrev Ops (pf : Kn) (S : AS) (op : IOp) : Prop := opsP pf.fs (fun i => pf.ld i = true) (fun i => pf.sd i = true) S op
inductive X (pf : Kn) : List Opr -> AS -> (AS -> Prop) -> Prop
 | nil {S : AS} {K : AS -> Prop} (h : K S) : X pf [] S K
 | op {io : Opr} {ios : List Opr} {S S1 : AS} {v : AV} {K : AS -> Prop} (hw : zaf S io = some true) (hi : iop S io.op = some (v, S1)) (hx : Ops pf S io.op) (hd : zc6 S.size io.dst = true) (h : X pf ios (S1.put io.dst v) K) : X pf (io :: ios) S K
 | skip {io : Opr} {ios : List Opr} {S : AS} {K : AS -> Prop} (hw : zaf S io = some false) (hd : zc6 S.size io.dst = true) (h : X pf ios (S.put io.dst (.tup [])) K) : X pf (io :: ios) S K
 | call {io : Opr} {ios : List Opr} {S : AS} {v : AV} {K : AS -> Prop} {fa : Arg} {args : List Arg} {fid : FuncId} {first cap vs : List AV} (hw : zaf S io = some true) (hop : io.op = .call fa args) (hf : S.arg fa = some (.fn fid first cap)) (ha : S.args args = some vs)
   (hp : pf.pf fid ((first ++ vs ++ cap).map (S.view VD)) v) (hfl : hasM.hasML (first ++ vs ++ cap) = true -> flat v = true) (hm : zco S.marks S.heap) (hd : zc6 S.size io.dst = true) (h : X pf ios (S.put io.dst v) K) : X pf (io :: ios) S K
 | ct {io : Opr} {ios : List Opr} {S : AS} {K : AS -> Prop} {fa : Arg} {args : List Arg} {fv : AV} {vs : List AV} {F : AV -> HS -> Prop} (hw : zaf S io = some true) (hop : io.op = .call fa args) (hf : S.arg fa = some fv) (ha : S.args args = some vs)
   (hc : pf.ct fv vs S.hs F) (hm : ∀ v H, F v H -> zco S.marks H.heap) (hd : zc6 S.size io.dst = true) (h : ∀ v H, F v H -> X pf ios ((S.withH H).put io.dst v) K) : X pf (io :: ios) S K
 | ext {io : Opr} {ios : List Opr} {S : AS} {K : AS -> Prop} {Fk : AS -> AV -> Prop} (hw : zaf S io = some true) (hs : pf.ex io.dst io.op S Fk) (hd : ∀ S1 v, Fk S1 v -> zc6 S1.size io.dst = true) (h : ∀ S1 v, Fk S1 v -> X pf ios (S1.put io.dst v) K) : X pf (io :: ios) S K
section
variable {P : Program} {w0 w : World} {N0 : Nat} {S S' : AS} {K : AS -> Prop} {E : Env}
theorem zvq {S S1 : AS} {op : IOp} {v : AV} (h : iop S op = some (v, S1)) : S1.size = S.size /\ S1.marks = S.marks := by
 rw [zj2 h]; exact ⟨rfl, rfl⟩
theorem X_TO {rd : Option (Nat × Nat)} {ios : List Opr} (h : X (KnP P w0 N0) ios S K) : TO P w0 N0 rd ios S K := by
 induction h with
 | nil h => exact TO_nil h
 | op hw hi _ hd _ ih =>
  refine zmh (zlc hi) hw fun S2 v2 ⟨e1, e2⟩ => ?_;subst e1 e2;exact ⟨by rw [(zvq hi).1]; exact hd, ih⟩
 | skip hw hd _ ih => exact TO_skip hw hd ih
 | @call io ios S v K fa args fid first cap vs hw hop hf ha hp hfl hm hd _ ih =>
  have hc : WpCall P w0 N0 S (.fn fid first cap) vs fun v' S' => v' = v /\ S' = S := zgx hp hfl hm ⟨rfl, rfl⟩;obtain ⟨Fk, hct, hk⟩ := hc.ok;refine zmh (zlb hop hf ha hct fun v H hF => (hk v H hF).1) hw fun S2 v2 ⟨H, hF, e⟩ => ?_;subst e;obtain ⟨_, rfl, e2⟩ := hk v2 H hF;rw [e2];exact ⟨hd, ih⟩
 | ct hw hop hf ha hc hm hd _ ih =>
  refine zmh (zlb hop hf ha hc hm) hw fun S2 v2 ⟨H, hF, e⟩ => ?_;subst e;exact ⟨hd, ih v2 H hF⟩
 | ext hw hs hd _ ih => exact zmh (hs rd _) hw fun S2 v2 hF => ⟨hd S2 v2 hF, ih S2 v2 hF⟩
def zga : IOp -> Bool
 | .mov _ | .pick .. | .bin .. | .eqb .. | .eqs .. | .un .. | .conv .. | .rstr .. | .faddr .. | .field .. | .idxs .. | .idxarr .. | .idxagg .. | .idxstr .. | .extract .. | .len .. | .lenc _ | .slsl .. => true
 | _ => false
theorem zlr {S S1 : AS} {op : IOp} {v : AV} (hf : zga op = true) (h : iop S op = some (v, S1)) (H : HS) : iop (S.withH H) op = some (v, S.withH H) := by
 cases op <;> simp only [zga, y0t] at hf
 all_goals simp only [iop, zmk, oarg_H] at h ⊢
 all_goals (repeat' (split at h)) <;> simp only [y03, y00, y0b, reduceCtorEq] at h
 all_goals first
  | (obtain ⟨_, e, rfl, rfl⟩ := h; simp_all)
  | simp_all
def zm2 : Arg -> List Arg -> Bool
 | .c (.fn _ [] []), [] => true
 | _, _ => false
def zdj : List Opr -> List (Bool × Bool) -> Bool
 | [], [] => true
 | io :: ios, (q, ind) :: fl => (match io.op with
  | .call fa args => !q || !ind || zm2 fa args
  | op => (q == !zda op) && (!q || !ind || zga op)) && zdj ios fl
 | _, _ => false
theorem zty {lk : FuncId -> List AV -> Option AV} {kn : FuncId -> Bool} {ios : List Opr} {ld sd : Nat -> Bool} (h : X (KnD lk ld sd) ios S K) : ∀ {fl : List (Bool × Bool)}, zdj ios fl = true -> ∃ S', (zca P (E.ask lk kn) R0 ios fl S = some S' /\ K S') /\
  ∀ (i : Nat) (io : Opr) (Si : AS), ios[i]? = some io -> zca P (E.ask lk kn) R0 (ios.take i) (fl.take i) S = some Si -> zaf Si io = some true -> ziv (fun i => ld i = true) (fun i => sd i = true) Si io.op := by
 induction h with
 | nil h =>
  intro fl hf;cases fl with
  | nil => exact ⟨_, ⟨rfl, h⟩, fun i io Si hi => by simp at hi⟩
  | cons => simp [zdj] at hf
 | @op io ios S S1 v K hw hi hx hd _ ih =>
  intro fl hf;cases fl with
  | nil => simp [zdj] at hf
  | cons x fl =>
   obtain ⟨q, ind⟩ := x;simp only [zdj, y0g] at hf;obtain ⟨S', ⟨h1, h2⟩, h3⟩ := ih hf.2;have fin : (∀ l r, zca P (E.ask lk kn) R0 (io :: l) ((q, ind) :: r) S = zca P (E.ask lk kn) R0 l r (S1.put io.dst v)) -> ∃ S', (zca P (E.ask lk kn) R0 (io :: ios) ((q, ind) :: fl) S = some S' /\ K S') /\
     ∀ (i : Nat) (io' : Opr) (Si : AS), (io :: ios)[i]? = some io' -> zca P (E.ask lk kn) R0 ((io :: ios).take i) (((q, ind) :: fl).take i) S = some Si -> zaf Si io' = some true -> ziv (fun i => ld i = true) (fun i => sd i = true) Si io'.op := by
    intro hrun;refine ⟨S', ⟨by rw [hrun]; exact h1, h2⟩, fun i io' Si e1 e2 e3 => ?_⟩;cases i with
    | zero =>
     simp [zca] at e1 e2;subst e1 e2;exact zwg hx
    | succ i =>
     rw [y10, y10, hrun] at e2;exact h3 i io' Si (by simpa using e1) e2 e3
   have hnc : ∀ a b, io.op ≠ .call a b := fun a b e => by rw [e] at hi; simp [iop] at hi
   have hf1 : q = !zda io.op /\ (q = true -> ind = false \/ zga io.op = true) := by
    have := hf.1;split at this
    ·rename_i hc; exact absurd hc (hnc _ _)
    ·simp only [y0g, beq_iff_eq, y0v, y1u] at this;exact ⟨this.1, fun e => (this.2.imp_left fun h => h.resolve_left (by rw [e]; simp))⟩
   refine fin fun l r => ?_;simp only [zca, hw];cases hl : zda io.op with
   | false =>
    have hq : q = true := by rw [hf1.1, hl]; rfl
    have hi2 := hf1.2 hq;subst hq;have e1 : zb2 (E.ask lk kn) R0 S io = some v := by
     unfold zb2;split
     ·rename_i hc; exact absurd hc (hnc _ _)
     ·rw [if_neg (by rw [hl]; simp), hi]; rfl
    have e3 : (if ind = true then zg2 (E.ask lk kn) R0 S io else zb2 (E.ask lk kn) R0 S io) = some v := by
     rcases hi2 with hi2 | hi2
     ·rw [hi2, if_neg (by simp)]; exact e1
     ·cases ind with
      | false => exact e1
      | true =>
       rw [if_pos rfl];have h2 := zlr hi2 hi zm1;unfold zg2;split
       ·rename_i hc; exact absurd hc (hnc _ _)
       ·rw [if_neg (by rw [hl]; simp), h2]; rfl
    have e2 := zk8 hl hi;subst e2;simp only [if_true, e3]
   | true =>
    have hq : q = false := by rw [hf1.1, hl]; rfl
    subst hq;have e1 : zdr P (E.ask lk kn) R0 S io = some (v, S1.hs) := by
     unfold zdr zb2 zgp;split
     ·rename_i v' hq;split at hq
      ·rename_i hc; exact absurd hc (hnc _ _)
      ·rw [if_pos hl] at hq; cases hq
     ·split
      ·rename_i hc; exact absurd hc (hnc _ _)
      ·rw [hi]
    simp only [y0t, if_false, e1];rw [<- zj2 hi]
 | @skip io ios S K hw hd _ ih =>
  intro fl hf;cases fl with
  | nil => simp [zdj] at hf
  | cons x fl =>
   obtain ⟨q, ind⟩ := x;simp only [zdj, y0g] at hf;obtain ⟨S', ⟨h1, h2⟩, h3⟩ := ih hf.2;have fin : (∀ l r, zca P (E.ask lk kn) R0 (io :: l) ((q, ind) :: r) S = zca P (E.ask lk kn) R0 l r (S.put io.dst (.tup []))) -> ∃ S', (zca P (E.ask lk kn) R0 (io :: ios) ((q, ind) :: fl) S = some S' /\ K S') /\
     ∀ (i : Nat) (io' : Opr) (Si : AS), (io :: ios)[i]? = some io' -> zca P (E.ask lk kn) R0 ((io :: ios).take i) (((q, ind) :: fl).take i) S = some Si -> zaf Si io' = some true -> ziv (fun i => ld i = true) (fun i => sd i = true) Si io'.op := by
    intro hrun;refine ⟨S', ⟨by rw [hrun]; exact h1, h2⟩, fun i io' Si e1 e2 e3 => ?_⟩;cases i with
    | zero =>
     simp [zca] at e1 e2;subst e1 e2;rw [hw] at e3; cases e3
    | succ i =>
     rw [y10, y10, hrun] at e2;exact h3 i io' Si (by simpa using e1) e2 e3
   exact fin fun l r => by simp only [zca, hw]
 | @call io ios S v K fa args fid first cap vs hw hop hf0 ha hp hfl hm hd _ ih =>
  intro fl hf;cases fl with
  | nil => simp [zdj] at hf
  | cons x fl =>
   obtain ⟨q, ind⟩ := x;simp only [zdj, y0g] at hf;obtain ⟨S', ⟨h1, h2⟩, h3⟩ := ih hf.2;have fin : (∀ l r, zca P (E.ask lk kn) R0 (io :: l) ((q, ind) :: r) S = zca P (E.ask lk kn) R0 l r (S.put io.dst v)) -> ∃ S', (zca P (E.ask lk kn) R0 (io :: ios) ((q, ind) :: fl) S = some S' /\ K S') /\
     ∀ (i : Nat) (io' : Opr) (Si : AS), (io :: ios)[i]? = some io' -> zca P (E.ask lk kn) R0 ((io :: ios).take i) (((q, ind) :: fl).take i) S = some Si -> zaf Si io' = some true -> ziv (fun i => ld i = true) (fun i => sd i = true) Si io'.op := by
    intro hrun;refine ⟨S', ⟨by rw [hrun]; exact h1, h2⟩, fun i io' Si e1 e2 e3 => ?_⟩;cases i with
    | zero =>
     simp [zca] at e1 e2;subst e1 e2;rw [hop]; exact trivial
    | succ i =>
     rw [y10, y10, hrun] at e2;exact h3 i io' Si (by simpa using e1) e2 e3
   have hf1 : q = false \/ (ind = false \/ zm2 fa args = true) := by
    have := hf.1;rw [hop] at this;simpa [or_assoc] using this
   refine fin fun l r => ?_;have e1 : zb2 (E.ask lk kn) R0 S io = some v := by
    unfold zb2;split
    ·rename_i fa' args' hop';rw [hop] at hop';injection hop' with e1 e2;subst e1 e2;simp only [hf0, ha, zdu];rw [show (E.ask lk kn).orc fid ((first ++ vs ++ cap).map (S.view VD)) = some v from hp]
     simp only;cases hmm : hasM.hasML (first ++ vs ++ cap) with
     | false => simp
     | true => simp [hfl hmm]
    ·rename_i hn; exact absurd hop (hn _ _)
   rcases hf1 with rfl | hind
   ·have e4 : zdr P (E.ask lk kn) R0 S io = some (v, S.hs) := by
     unfold zdr;rw [e1]
    simp only [zca, hw, y0t, if_false, e4];rfl
   have e3 : (if ind = true then zg2 (E.ask lk kn) R0 S io else zb2 (E.ask lk kn) R0 S io) = some v := by
    rcases hind with hind | hind
    ·rw [hind, if_neg (by simp)]; exact e1
    ·cases ind with
     | false => exact e1
     | true =>
      rw [if_pos rfl];unfold zm2 at hind;split at hind
      ·injection hf0 with hf0;injection hf0 with a1 a2 a3;subst a2 a3;replace a1 := a1.symm;subst a1;injection ha with ha;subst ha;unfold zg2;split
       ·rename_i fa' args' hop';rw [hop] at hop';injection hop' with b1 b2;subst b1 b2;have hp2 : (E.ask lk kn).orc fid [] = some v := hp;simp [AS.arg, AS.args, zdu, hp2, hasM.hasML]
       ·rename_i hn; exact absurd hop (hn _ _)
      ·cases hind
   cases q with
   | true => simp only [zca, hw, if_true, e3]
   | false =>
    have e4 : zdr P (E.ask lk kn) R0 S io = some (v, S.hs) := by
     unfold zdr;rw [e1]
    simp only [zca, hw, y0t, if_false, e4];rfl
 | ct hw hop hf ha hc hm hd _ ih => exact hc.elim
 | ext hw hs => exact hs.elim
end
inductive Fr where
 | seq (y : IC)
 | blk (id : Nat)
abbrev Md := Option (Option (Nat × Nat))
section
variable (P : Program) (w0 : World) (N0 : Nat)
def Tm : Md -> IC -> AS -> (Exit -> AS -> Prop) -> Prop
 | none => T0 P w0 N0
 | some rd => T P w0 N0 rd
def QSeqm (md : Md) (y : IC) (Q : Exit -> AS -> Prop) : Exit -> AS -> Prop
 | .normal, S => Tm P w0 N0 md y S Q
 | e, S => Q e S
def Subm : Md -> AS -> AS -> Prop
 | none => Sub0 w0 N0
 | some _ => Sub w0 N0
def znw (md : Md) (J : Nat -> AS -> Prop) (m : Nat) (Q : Exit -> AS -> Prop) : Exit -> AS -> Prop
 | .normal, S => ∃ m' S', m' < m /\ Subm w0 N0 md S S' /\ J m' S'
 | e, S => Q e S
def unw (md : Md) : List Fr -> (Exit -> AS -> Prop) -> Exit -> AS -> Prop
 | [], Q => Q
 | .seq y :: k, Q => QSeqm P w0 N0 md y (unw md k Q)
 | .blk id :: k, Q => zla id (unw md k Q)
structure Zm (md : Md) (ic : IC) (S : AS) (k : List Fr) (Q : Exit -> AS -> Prop) : Prop where
 ok : Tm P w0 N0 md ic S (unw P w0 N0 md k Q)
structure Um (md : Md) (e : Exit) (S : AS) (k : List Fr) (Q : Exit -> AS -> Prop) : Prop where
 ok : unw P w0 N0 md k Q e S
structure Om (md : Md) (pf : Kn) (ios : List Opr) (S : AS) (k : List Fr) (Q : Exit -> AS -> Prop) : Prop where
 ok : (ios.all fun io => zc6 S.size io.dst) = true -> X pf ios S fun S' => unw P w0 N0 md k Q .normal S'
abbrev Z (ic : IC) (S : AS) (k : List Fr) (Q : Exit -> AS -> Prop) : Prop := Zm P w0 N0 none ic S k Q
end
section
variable {P : Program} {w0 w : World} {N0 : Nat} {S S' : AS} {k : List Fr} {Q : Exit -> AS -> Prop} {pf : Kn} {ios : List Opr} {n nx ck : Nat} {mk : List (Nat × Nat)} {md : Md} {l : List (Nat × AV)} {hp : List (Nat × Nat × AObj)}
theorem zf2 {ic : IC} (h : ∀ rd, T P w0 N0 rd ic S Q) : Tm P w0 N0 md ic S Q := by
 cases md with
 | none => exact ztt (h none)
 | some rd => exact h rd
theorem Tm_sub {ic : IC} (hs : Subm w0 N0 md S S') (h : Tm P w0 N0 md ic S' Q) : Tm P w0 N0 md ic S Q := by
 cases md with
 | none => exact T0_sub hs h
 | some rd => exact T_sub hs h
theorem Tm_seq {x y : IC} (h : Tm P w0 N0 md x S (QSeqm P w0 N0 md y Q)) : Tm P w0 N0 md (.seq x y) S Q := by
 cases md with
 | none => exact T0_seq (zts h fun e S' hq => by cases e <;> exact hq)
 | some rd => exact T_seq (zgz h fun e S' hq => by cases e <;> exact hq)
theorem Tm_block {id : Nat} {x : IC} (h : Tm P w0 N0 md x S (zla id Q)) : Tm P w0 N0 md (.block id x) S Q := by
 cases md with
 | none => exact T0_block h
 | some rd => exact T_block h
theorem ztx {c : Arg} {x y : IC} {t : Bool} (hc : S.arg c = some (.bool t)) (h : Tm P w0 N0 md (if t then x else y) S Q) : Tm P w0 N0 md (.cond c x y) S Q := by
 cases md with
 | none => exact T0_cond hc h
 | some rd => exact T_cond hc h
theorem Tm_loop {x : IC} (J : Nat -> AS -> Prop) {m : Nat} (h0 : J m S) (hround : ∀ m S, J m S -> Tm P w0 N0 md x S (znw w0 N0 md J m Q)) : Tm P w0 N0 md (.loop x) S Q := by
 cases md with
 | none => exact T0_loop J h0 fun m S hJ => zts (hround m S hJ) fun e S' hq => by cases e <;> exact hq
 | some rd => exact T_loop J h0 fun m S hJ => zgz (hround m S hJ) fun e S' hq => by cases e <;> exact hq
theorem Subm.of_sub (h : Sub w0 N0 S S') : Subm w0 N0 md S S' := by
 cases md with
 | none => exact h.sub0
 | some rd => exact h
theorem zb5 {x y : IC} (h : Zm P w0 N0 md x S (.seq y :: k) Q) : Zm P w0 N0 md (.seq x y) S k Q := ⟨Tm_seq h.ok⟩
theorem zbc {id : Nat} {x : IC} (h : Zm P w0 N0 md x S (.blk id :: k) Q) : Zm P w0 N0 md (.block id x) S k Q := ⟨Tm_block h.ok⟩
theorem zbd (h : Um P w0 N0 md .normal S k Q) : Zm P w0 N0 md .skip S k Q := ⟨zf2 fun _ => T_skip h.ok⟩
theorem zgn {i : Nat} (h : Um P w0 N0 md (.exit i) S k Q) : Zm P w0 N0 md (.exit i) S k Q := ⟨zf2 fun _ => T_exit h.ok⟩
theorem zby (h : Um P w0 N0 md .ret S k Q) : Zm P w0 N0 md .ret S k Q := ⟨zf2 fun _ => T_ret h.ok⟩
theorem za8 (hd : (ios.all fun io => zc6 S.size io.dst) = true) (h : Om P w0 N0 md (KnP P w0 N0) ios S k Q) : Zm P w0 N0 md (.region ios none) S k Q := ⟨zf2 fun _ => T_region (X_TO (h.ok hd))⟩
theorem zc2 {E : Env} (hE : EnvOk P E) (L : List (FuncId × List AV × AV)) (hL : ∀ x ∈ L, PF P x.1 x.2.1 x.2.2) (kn : FuncId -> Bool) {pres : List (List Nat)} {fl : List (Bool × Bool)} (hs : statD (E.ask (zer L) kn) ios pres S.size = some fl) (hf : zdj ios fl = true)
  (hd : (ios.all fun io => zc6 S.size io.dst) = true) (h : Om P w0 N0 md (KnL (zer L)) ios S k Q) : Zm P w0 N0 md (.region ios (some pres)) S k Q := by
 obtain ⟨S', ⟨h1, h2⟩, _⟩ := zty (P := P) (E := E) (kn := kn) (h.ok hd) hf;exact ⟨zf2 fun _ => zgz (T_stat (hE.ask (zhd hL)) R0_ok hs h1) fun e S1 ⟨e1, e2⟩ => by subst e1 e2; exact h2⟩
theorem znq {E : Env} (hE : EnvOk P E) (L : List (FuncId × List AV × AV)) (hL : ∀ x ∈ L, PF P x.1 x.2.1 x.2.2) (kn : FuncId -> Bool) (ld sd : Nat -> Bool) (hdis : ∀ i, ld i = true -> sd i = true -> False) {pres : List (List Nat)} {fl : List (Bool × Bool)}
  (hs : zmc (E.ask (zer L) kn) ios pres S.size = some fl) (hf : zdj ios fl = true)
  (hd : (ios.all fun io => zc6 S.size io.dst) = true) (h : Om P w0 N0 md (KnD (zer L) ld sd) ios S k Q) : Zm P w0 N0 md (.region ios (some pres)) S k Q := by
 obtain ⟨S', ⟨h1, h2⟩, h3⟩ := zty (P := P) (E := E) (kn := kn) (h.ok hd) hf;exact ⟨zf2 fun _ => zgz (ztw (hE.ask (zhd hL)) R0_ok hs h1 hdis h3) fun e S1 ⟨e1, e2⟩ => by subst e1 e2; exact h2⟩
theorem zgg {E : Env} (hE : EnvOk P E) {pres : List (List Nat)} {fl : List (Bool × Bool)} (hs : statD (E.ask (zer []) fun _ => false) ios pres S.size = some fl) (hf : zdj ios fl = true)
  (hd : (ios.all fun io => zc6 S.size io.dst) = true) (h : Om P w0 N0 md (KnL (zer [])) ios S k Q) : Zm P w0 N0 md (.region ios (some pres)) S k Q :=
 zc2 hE [] (fun _ hx => absurd hx y0c) _ hs hf hd h
theorem zgi {c : Arg} {x y : IC} (hc : zar c l = some (.bool true)) (h : Zm P w0 N0 md x (st n l hp nx ck mk) k Q) : Zm P w0 N0 md (.cond c x y) (st n l hp nx ck mk) k Q :=
 ⟨ztx (t := true) (by cases c with | t d => exact (zd4 d l).trans hc | c v => exact hc) h.ok⟩
theorem zfj {c : Arg} {x y : IC} (hc : zar c l = some (.bool false)) (h : Zm P w0 N0 md y (st n l hp nx ck mk) k Q) : Zm P w0 N0 md (.cond c x y) (st n l hp nx ck mk) k Q :=
 ⟨ztx (t := false) (by cases c with | t d => exact (zd4 d l).trans hc | c v => exact hc) h.ok⟩
theorem zpe (hs : Subm w0 N0 md S S') {ic : IC} (h : Zm P w0 N0 md ic S' k Q) : Zm P w0 N0 md ic S k Q := ⟨Tm_sub hs h.ok⟩
theorem zau {y : IC} (h : Zm P w0 N0 md y S k Q) : Um P w0 N0 md .normal S (.seq y :: k) Q := ⟨h.ok⟩
theorem zg3 {id : Nat} (h : Um P w0 N0 md .normal S k Q) : Um P w0 N0 md .normal S (.blk id :: k) Q := ⟨h.ok⟩
theorem zem {id : Nat} (h : Um P w0 N0 md .normal S k Q) : Um P w0 N0 md (.exit id) S (.blk id :: k) Q := ⟨by show (if id = id then _ else _); rw [if_pos rfl]; exact h.ok⟩
theorem zis {i id : Nat} (hn : (Nat.beq i id) = false) (h : Um P w0 N0 md (.exit i) S k Q) : Um P w0 N0 md (.exit i) S (.blk id :: k) Q := ⟨by
 have : i ≠ id := fun e => by rw [e, y2h] at hn; cases hn
 show (if i = id then _ else _); rw [if_neg this]; exact h.ok⟩
theorem zcl {i : Nat} {y : IC} (h : Um P w0 N0 md (.exit i) S k Q) : Um P w0 N0 md (.exit i) S (.seq y :: k) Q := ⟨h.ok⟩
theorem zaw {y : IC} (h : Um P w0 N0 md .ret S k Q) : Um P w0 N0 md .ret S (.seq y :: k) Q := ⟨h.ok⟩
theorem zct {id : Nat} (h : Um P w0 N0 md .ret S k Q) : Um P w0 N0 md .ret S (.blk id :: k) Q := ⟨h.ok⟩
theorem zaa {e : Exit} (h : Q e S) : Um P w0 N0 md e S [] Q := ⟨h⟩
theorem zav {b : IC} (J : Nat -> AS -> Prop) (m : Nat) (hs : Subm w0 N0 md S S') (h0 : J m S') (hround : ∀ m S, J m S -> Zm P w0 N0 md b S [] (znw w0 N0 md J m (unw P w0 N0 md k Q))) : Zm P w0 N0 md (.loop b) S k Q :=
 ⟨Tm_sub hs (Tm_loop J h0 fun m S hJ => (hround m S hJ).ok)⟩
theorem zad {J : Nat -> AS -> Prop} {m m' : Nat} {Q' : Exit -> AS -> Prop} (hm : m' < m) (hs : Subm w0 N0 md S S') (hJ : J m' S') : Um P w0 N0 md .normal S [] (znw w0 N0 md J m Q') := ⟨⟨m', S', hm, hs, hJ⟩⟩
theorem zbq {J : Nat -> AS -> Prop} {m i : Nat} (h : Um P w0 N0 md (.exit i) S k Q) : Um P w0 N0 md (.exit i) S [] (znw w0 N0 md J m (unw P w0 N0 md k Q)) := ⟨h.ok⟩
theorem zkw {J : Nat -> AS -> Prop} {m : Nat} (h : Um P w0 N0 md .ret S k Q) : Um P w0 N0 md .ret S [] (znw w0 N0 md J m (unw P w0 N0 md k Q)) := ⟨h.ok⟩
theorem zay (h : Um P w0 N0 md .normal S k Q) : Om P w0 N0 md pf [] S k Q := ⟨fun _ => .nil h.ok⟩
theorem all_cons {io : Opr} (h : ((io :: ios).all fun io => zc6 S.size io.dst) = true) : zc6 S.size io.dst = true /\ (ios.all fun io => zc6 S.size io.dst) = true := by
 simpa using h
theorem zdf {d : Nat} {op : IOp} {v : AV} {hp' : List (Nat × Nat × AObj)} {nx' ck' : Nat} (hi : iop (st n l hp nx ck mk) op = some (v, st n l hp' nx' ck' mk)) (h : Om P w0 N0 md pf ios (st n ((d, v) :: l) hp' nx' ck' mk) k Q) (hx : Ops pf (st n l hp nx ck mk) op := by exact trivial) : Om P w0 N0 md pf (⟨some d, op, none⟩ :: ios) (st n l hp nx ck mk) k Q :=
 ⟨fun ha => .op rfl hi hx (all_cons ha).1 (h.ok (all_cons ha).2)⟩
theorem o_op0 {op : IOp} {v : AV} {hp' : List (Nat × Nat × AObj)} {nx' ck' : Nat} (hi : iop (st n l hp nx ck mk) op = some (v, st n l hp' nx' ck' mk)) (h : Om P w0 N0 md pf ios (st n l hp' nx' ck' mk) k Q) (hx : Ops pf (st n l hp nx ck mk) op := by exact trivial) : Om P w0 N0 md pf (⟨none, op, none⟩ :: ios) (st n l hp nx ck mk) k Q :=
 ⟨fun ha => .op rfl hi hx (all_cons ha).1 (h.ok (all_cons ha).2)⟩
theorem zch (d : Nat) : (st n l hp nx ck mk).get d = zah d l := zd4 d l
theorem zag (x : Arg) : (st n l hp nx ck mk).arg x = zar x l := by
 cases x with
 | t d => exact zd4 d l
 | c v => rfl
theorem zfs : ∀ xs : List Arg, (st n l hp nx ck mk).args xs = zeo xs l
 | [] => rfl
 | x :: xs => by simp only [AS.args, zeo, zag, zfs xs]; rfl
theorem zwd (x : Option Arg) : (st n l hp nx ck mk).oarg x = oargA x l := by
 cases x with
 | none => rfl
 | some a => simp only [AS.oarg, oargA, zag]; cases zar a l <;> rfl
theorem zna : ∀ ps : List (Nat × Nat × Arg), (st n l hp nx ck mk).parts ps = ze9 ps l
 | [] => rfl
 | (off, size, a) :: ps => by simp only [AS.parts, ze9, zag, zna ps]; rfl
theorem zgy {g : Nat} {b : Bool} {d : Option Nat} {op : IOp} (hg : zah g l = some (.bool b)) (h : Om P w0 N0 md pf (⟨d, op, none⟩ :: ios) (st n l hp nx ck mk) k Q) : Om P w0 N0 md pf (⟨d, op, some (g, b)⟩ :: ios) (st n l hp nx ck mk) k Q :=
 ⟨fun ha => by
  have hw : zaf (st n l hp nx ck mk) ⟨d, op, some (g, b)⟩ = some true := by simp [zaf, zch, hg]
  cases h.ok ha with
  | op _ hi hx hd hk => exact .op hw hi hx hd hk
  | skip hw' => cases hw'
  | call _ hop hf ha hp hfl hm hd hx => exact .call hw hop hf ha hp hfl hm hd hx
  | ct _ hop hf ha hc hm hd hx => exact .ct hw hop hf ha hc hm hd hx
  | ext _ hs hd hx => exact .ext hw hs hd hx⟩
theorem znu {g : Nat} {b c : Bool} {d : Nat} {op : IOp} (hg : zah g l = some (.bool c)) (hc : (c == b) = false) (h : Om P w0 N0 md pf ios (st n ((d, .tup []) :: l) hp nx ck mk) k Q) : Om P w0 N0 md pf (⟨some d, op, some (g, b)⟩ :: ios) (st n l hp nx ck mk) k Q :=
 ⟨fun ha => .skip (by simp only [zaf, zch, hg, hc]) (all_cons ha).1 (h.ok (all_cons ha).2)⟩
theorem o_gt {g : Nat} {b : Bool} {d : Nat} {op : IOp} {vs : List AV} (hg : zah g l = some (.tup vs)) (h : Om P w0 N0 md pf ios (st n ((d, .tup []) :: l) hp nx ck mk) k Q) : Om P w0 N0 md pf (⟨some d, op, some (g, b)⟩ :: ios) (st n l hp nx ck mk) k Q :=
 ⟨fun ha => .skip (by simp only [zaf, zch, hg]) (all_cons ha).1 (h.ok (all_cons ha).2)⟩
theorem ldOk {g : Option Nat} {a : Arg} {id sp off : Nat} (h : zar a l = some (.mptr id sp off)) (hk : pf.ld id = true) : Ops pf (st n l hp nx ck mk) (.load g a) := fun i sp' off' e => by
 rw [zag, h] at e;injection e with e;injection e with e1;subst e1;exact hk
theorem vpOk {g : Option Nat} {a : Arg} {cs : List AV} (h : zar a l = some (.vptr cs)) : Ops pf (st n l hp nx ck mk) (.load g a) := fun i sp' off' e => by
 rw [zag, h] at e;injection e with e;cases e
theorem sdOk {sz : Nat} {a x : Arg} {id sp off : Nat} (h : zar a l = some (.mptr id sp off)) (hk : pf.sd id = true) : Ops pf (st n l hp nx ck mk) (.store sz a x) := fun i sp' off' e => by
 rw [zag, h] at e;injection e with e;injection e with e1;subst e1;exact hk
theorem apOk {sz sz2 b : Nat} {z : List AV} {a x : Arg} {id sp off len : Nat} {cap : Option Nat} (h : zar a l = some (.ms id sp sz2 off len cap)) (hk : pf.sd id = true) : Ops pf (st n l hp nx ck mk) (.append sz b z a x) := fun i _ _ _ _ _ e => by
 rw [zag, h] at e;injection e with e;injection e with e1;subst e1;exact hk
theorem zw8 {sz b : Nat} {z : List AV} {a x : Arg} (h : zar a l = some .nils) : Ops pf (st n l hp nx ck mk) (.append sz b z a x) := fun i _ _ _ _ _ e => by
 rw [zag, h] at e;injection e with e;cases e
theorem za4 {d : Nat} {op : BinOp} {x y : Arg} {a b : AV} {t : Bool} (hx : zar x l = some a) (hy : zar y l = some b) (hb : binOp op a b = some (.bool t)) (h1 : t = true -> Om P w0 N0 md pf ios (st n ((d, .bool true) :: l) hp nx ck mk) k Q) (h2 : t = false -> Om P w0 N0 md pf ios (st n ((d, .bool false) :: l) hp nx ck mk) k Q) :
  Om P w0 N0 md pf (⟨some d, .bin op x y, none⟩ :: ios) (st n l hp nx ck mk) k Q := by
 have hi : iop (st n l hp nx ck mk) (.bin op x y) = some (.bool t, st n l hp nx ck mk) := by simp only [iop, zag, hx, hy, hb]; rfl
 cases t with
 | true => exact zdf hi (h1 rfl)
 | false => exact zdf hi (h2 rfl)
theorem zos {d : Nat} {op : BinOp} {x y : Arg} {a b : AV} (hx : zar x l = some a) (hy : zar y l = some b) (hb : binOp op a b = some (.bool true)) (h : Om P w0 N0 md pf ios (st n ((d, .bool true) :: l) hp nx ck mk) k Q) : Om P w0 N0 md pf (⟨some d, .bin op x y, none⟩ :: ios) (st n l hp nx ck mk) k Q :=
 za4 hx hy hb (fun _ => h) fun e => Bool.noConfusion e
theorem zfg {d : Nat} {op : BinOp} {x y : Arg} {a b : AV} (hx : zar x l = some a) (hy : zar y l = some b) (hb : binOp op a b = some (.bool false)) (h : Om P w0 N0 md pf ios (st n ((d, .bool false) :: l) hp nx ck mk) k Q) : Om P w0 N0 md pf (⟨some d, .bin op x y, none⟩ :: ios) (st n l hp nx ck mk) k Q :=
 za4 hx hy hb (fun e => Bool.noConfusion e) fun _ => h
theorem zwb {d : Nat} {neg : Bool} {x y : Arg} {a b : Bool} (hx : zar x l = some (.bool a)) (hy : zar y l = some (.bool b)) (ht : (if neg then !(a == b) else a == b) = true) (h : Om P w0 N0 md pf ios (st n ((d, .bool true) :: l) hp nx ck mk) k Q) : Om P w0 N0 md pf (⟨some d, .eqb neg x y, none⟩ :: ios) (st n l hp nx ck mk) k Q :=
 zdf (v := .bool true) (by simp only [iop, zag, hx, hy, ht]) h
theorem zwa {d : Nat} {neg : Bool} {x y : Arg} {a b : Bool} (hx : zar x l = some (.bool a)) (hy : zar y l = some (.bool b)) (ht : (if neg then !(a == b) else a == b) = false) (h : Om P w0 N0 md pf ios (st n ((d, .bool false) :: l) hp nx ck mk) k Q) : Om P w0 N0 md pf (⟨some d, .eqb neg x y, none⟩ :: ios) (st n l hp nx ck mk) k Q :=
 zdf (v := .bool false) (by simp only [iop, zag, hx, hy, ht]) h
theorem zb3 {d : Nat} {op : BinOp} {x y : Arg} {a b v : AV} (hx : zar x l = some a) (hy : zar y l = some b) (hb : binOp op a b = some v) (h : Om P w0 N0 md pf ios (st n ((d, v) :: l) hp nx ck mk) k Q) :
  Om P w0 N0 md pf (⟨some d, .bin op x y, none⟩ :: ios) (st n l hp nx ck mk) k Q :=
 zdf (by simp only [iop, zag, hx, hy, hb]; rfl) h
theorem zal {d : Nat} {f : FuncId} {args : List Arg} {vs as : List AV} {v : AV} (ha : zeo args l = some vs) (hv : vs.map ((st n l hp nx ck mk).view VD) = as) (hpf : pf.pf f as v) (hfl : hasM.hasML vs = true -> flat v = true) (h : Om P w0 N0 md pf ios (st n ((d, v) :: l) hp nx ck mk) k Q) (hmk : zco mk hp := by exact fun m hm => absurd hm y0c) :
  Om P w0 N0 md pf (⟨some d, .call (.c (.fn f [] [])) args, none⟩ :: ios) (st n l hp nx ck mk) k Q :=
 ⟨fun hd => .call (first := []) (cap := []) rfl rfl rfl ((zfs args).trans ha) (by simp only [y1y, y0s]; rw [hv]; exact hpf) (by simpa using hfl) hmk (all_cons hd).1 (h.ok (all_cons hd).2)⟩
theorem zes {d : Nat} {fa : Arg} {args : List Arg} {f : FuncId} {first cap vs as : List AV} {v : AV} (hf : zar fa l = some (.fn f first cap)) (ha : zeo args l = some vs) (hv : (first ++ vs ++ cap).map ((st n l hp nx ck mk).view VD) = as) (hpf : pf.pf f as v) (hfl : hasM.hasML (first ++ vs ++ cap) = true -> flat v = true) (h : Om P w0 N0 md pf ios (st n ((d, v) :: l) hp nx ck mk) k Q) (hmk : zco mk hp := by exact fun m hm => absurd hm y0c) :
  Om P w0 N0 md pf (⟨some d, .call fa args, none⟩ :: ios) (st n l hp nx ck mk) k Q :=
 ⟨fun hd => .call (first := first) (cap := cap) rfl rfl ((zag fa).trans hf) ((zfs args).trans ha) (by rw [hv]; exact hpf) hfl hmk (all_cons hd).1 (h.ok (all_cons hd).2)⟩
theorem zhh {d : Nat} {fa : Arg} {args : List Arg} {fv : AV} {vs : List AV} (F : AV -> HS -> Prop) (hf : zar fa l = some fv) (ha : zeo args l = some vs) (hc : pf.ct fv vs ⟨hp, nx, ck⟩ F) (hm : ∀ v H, F v H -> zco mk H.heap)
  (h : ∀ v H, F v H -> Om P w0 N0 md pf ios (st n ((d, v) :: l) H.heap H.next H.clk mk) k Q) : Om P w0 N0 md pf (⟨some d, .call fa args, none⟩ :: ios) (st n l hp nx ck mk) k Q :=
 ⟨fun hd => .ct rfl rfl ((zag fa).trans hf) ((zfs args).trans ha) hc hm (all_cons hd).1 fun v H hF => (h v H hF).ok (all_cons hd).2⟩
theorem zha {x : Arg} {v : AV} (h : zar x l = some v) : iop (st n l hp nx ck mk) (.mov x) = some (v, st n l hp nx ck mk) := by simp only [iop, zag, h]; rfl
theorem zvm {c a b : Arg} {v : AV} (hc : zar c l = some (.bool true)) (h : zar a l = some v) : iop (st n l hp nx ck mk) (.pick c a b) = some (v, st n l hp nx ck mk) := by simp only [iop, zag, hc, h]; rfl
theorem zvl {c a b : Arg} {v : AV} (hc : zar c l = some (.bool false)) (h : zar b l = some v) : iop (st n l hp nx ck mk) (.pick c a b) = some (v, st n l hp nx ck mk) := by simp only [iop, zag, hc, h]; rfl
theorem zhz {z : List AV} : iop (st n l hp nx ck mk) (.alloc z) = some (.mptr nx ck 0, st n l ((nx, ck, .cells z) :: hp) (nx + 1) (ck + 1) mk) := rfl
theorem g_box {a : Arg} {v : AV} {cs : List AV} (h : zar a l = some v) (hc : v.cells? = some cs) : iop (st n l hp nx ck mk) (.box a) = some (.mptr nx ck 0, st n l ((nx, ck, .cells cs) :: hp) (nx + 1) (ck + 1) mk) := by simp only [iop, zag, h, hc]; rfl
theorem zi0 {z cs : List AV} {ps : List (Nat × Nat × Arg)} {pl : List (Nat × AV)} (h : ze9 ps l = some pl) (hf : zbe z pl = some cs) : iop (st n l hp nx ck mk) (.build z ps) = some (.agg cs, st n l hp nx ck mk) := by simp only [iop, zna, h, hf]
theorem zg9 {sz len : Nat} {z cs : List AV} {ps : List (Nat × Nat × Arg)} {pl : List (Nat × AV)} (h : ze9 ps l = some pl) (hf : zbe z pl = some cs) : iop (st n l hp nx ck mk) (.bslice sz len z ps) = some (.ms nx ck sz 0 len (some len), st n l ((nx, ck, .cells cs) :: hp) (nx + 1) (ck + 1) mk) := by simp only [iop, zna, h, hf]; rfl
theorem zmr (p : AV) : (st n l hp nx ck mk).deref p = zim hp nx p := by cases p <;> rfl
theorem zlo {a : Arg} {p v : AV} {cs : List AV} (h : zar a l = some p) (hd : zim hp nx p = some (v :: cs)) : iop (st n l hp nx ck mk) (.load none a) = some (v, st n l hp nx ck mk) := by simp only [iop, zag, h, zmr, hd]
theorem zi1 {a : Arg} {p : AV} {m : Nat} {cs ws : List AV} (h : zar a l = some p) (hd : zim hp nx p = some cs) (hm : Nat.ble m cs.length = true) (hw : cs.take m = ws) : iop (st n l hp nx ck mk) (.load (some m) a) = some (.agg ws, st n l hp nx ck mk) := by
 subst hw; simp only [iop, zag, h, zmr, hd, if_pos (y04 hm)]
theorem zf8 {size id sp off : Nat} {p x : Arg} {v : AV} {vs cs : List AV} (h : zar p l = some (.mptr id sp off)) (hv : zar x l = some v) (hc : v.cells? = some vs) (hn : Nat.beq vs.length size = true) (hl : look id hp = some (sp, .cells cs)) (hle : Nat.ble (off + vs.length) cs.length = true) (ha : vs.all AV.isCell = true) :
  iop (st n l hp nx ck mk) (.store size p x) = some (.tup [], st n l (zap id (sp, .cells (setAt off cs vs)) hp) nx ck mk) := by
 have hl' : look id (st n l hp nx ck mk).heap = some (sp, .cells cs) := hl;simp only [iop, zag, h, hv, hc, if_pos (y14 hn), AS.store, hl'];rw [if_pos ⟨trivial, y04 hle, ha⟩]; rfl
theorem g_nilv {a : Arg} {cs : List AV} (h : zar a l = some (.vptr cs)) : iop (st n l hp nx ck mk) (.nilchk a) = some (.vptr cs, st n l hp nx ck mk) := by simp only [iop, zag, h]
theorem zvk {a : Arg} {id sp off : Nat} (h : zar a l = some (.mptr id sp off)) : iop (st n l hp nx ck mk) (.nilchk a) = some (.mptr id sp off, st n l hp nx ck mk) := by simp only [iop, zag, h]
theorem g_un {a : Arg} {op : UnOp} {v r : AV} (h : zar a l = some v) (hr : unOp op v = some r) : iop (st n l hp nx ck mk) (.un op a) = some (r, st n l hp nx ck mk) := by simp only [iop, zag, h, hr]; rfl
theorem g_conv {a : Arg} {kd : IntKind} {v r : AV} (h : zar a l = some v) (hr : zsu kd v = some r) : iop (st n l hp nx ck mk) (.conv kd a) = some (r, st n l hp nx ck mk) := by simp only [iop, zag, h, hr]; rfl
theorem g_rstr {a : Arg} {kd : IntKind} {z : Int} (h : zar a l = some (.int kd z)) (hz : decide (0 <= z /\ z <= 127) = true) : iop (st n l hp nx ck mk) (.rstr a) = some (.str [UInt8.ofNat z.toNat], st n l hp nx ck mk) := by simp only [iop, zag, h]; rw [if_pos (of_decide_eq_true hz)]
theorem zh9 {off : Nat} {x : Arg} {cs ds : List AV} (h : zar x l = some (.vptr cs)) (hle : Nat.ble off cs.length = true) (hd : cs.drop off = ds) : iop (st n l hp nx ck mk) (.faddr off x) = some (.vptr ds, st n l hp nx ck mk) := by
 subst hd; simp only [iop, zag, h, if_pos (y04 hle)]
theorem zat {off id sp o : Nat} {x : Arg} (h : zar x l = some (.mptr id sp o)) : iop (st n l hp nx ck mk) (.faddr off x) = some (.mptr id sp (o + off), st n l hp nx ck mk) := by simp only [iop, zag, h]
theorem g_field {off : Nat} {x : Arg} {cs : List AV} {v : AV} (h : zar x l = some (.agg cs)) (hv : cs[off]? = some v) : iop (st n l hp nx ck mk) (.field off none x) = some (v, st n l hp nx ck mk) := by simp only [iop, zag, h, hv]; rfl
theorem g_fieldn {off m : Nat} {x : Arg} {cs ws : List AV} (h : zar x l = some (.agg cs)) (hle : Nat.ble (off + m) cs.length = true) (hw : (cs.drop off).take m = ws) : iop (st n l hp nx ck mk) (.field off (some m) x) = some (.agg ws, st n l hp nx ck mk) := by
 subst hw; simp only [iop, zag, h, if_pos (y04 hle)]
theorem zrd {sz : Nat} {x i : Arg} {es : List (List AV)} {e : List AV} {kd : IntKind} {z : Int} (hx : zar x l = some (.vs es)) (hi : zar i l = some (.int kd z)) (h0 : 0 <= z) (hb : es[z.toNat]? = some e) (he : e.length = sz) : iop (st n l hp nx ck mk) (.idxs sz x i) = some (.vptr e, st n l hp nx ck mk) :=
 iop_idxs ((zag x).trans hx) ((zag i).trans hi) h0 hb he
theorem zmv {sz : Nat} {x i : Arg} {id sp off len : Nat} {cap : Option Nat} {kd : IntKind} {z : Int} (hx : zar x l = some (.ms id sp sz off len cap)) (hi : zar i l = some (.int kd z)) (h0 : 0 <= z) (hn : z < len) : iop (st n l hp nx ck mk) (.idxs sz x i) = some (.mptr id sp (off + z.toNat * sz), st n l hp nx ck mk) :=
 zpy ((zag x).trans hx) ((zag i).trans hi) h0 hn
theorem zod {m sz : Nat} {x i : Arg} {id sp off : Nat} {kd : IntKind} {z : Int} (hx : zar x l = some (.mptr id sp off)) (hi : zar i l = some (.int kd z)) (hz : decide (0 <= z /\ z < m) = true) : iop (st n l hp nx ck mk) (.idxarr m sz x i) = some (.mptr id sp (off + z.toNat * sz), st n l hp nx ck mk) := by
 simp only [iop, zag, hx, hi];rw [if_pos (of_decide_eq_true hz)]
theorem zvg {m sz : Nat} {x i : Arg} {cs ds : List AV} {kd : IntKind} {z : Int} (hx : zar x l = some (.vptr cs)) (hi : zar i l = some (.int kd z)) (hz : decide (0 <= z /\ z < m /\ z.toNat * sz <= cs.length) = true) (hd : cs.drop (z.toNat * sz) = ds) : iop (st n l hp nx ck mk) (.idxarr m sz x i) = some (.vptr ds, st n l hp nx ck mk) := by
 subst hd;simp only [iop, zag, hx, hi];rw [if_pos (of_decide_eq_true hz)]
theorem g_idxagg {m : Nat} {x i : Arg} {cs : List AV} {kd : IntKind} {z : Int} {v : AV} (hx : zar x l = some (.agg cs)) (hi : zar i l = some (.int kd z)) (hz : decide (0 <= z /\ z < m /\ z.toNat * 1 + 1 <= cs.length) = true) (hv : cs[z.toNat * 1]? = some v) : iop (st n l hp nx ck mk) (.idxagg m 1 false x i) = some (v, st n l hp nx ck mk) := by
 simp only [iop, zag, hx, hi];rw [if_pos (of_decide_eq_true hz), if_neg (by simp), hv]; rfl
theorem zvf {m sz : Nat} {x i : Arg} {cs ws : List AV} {kd : IntKind} {z : Int} (hx : zar x l = some (.agg cs)) (hi : zar i l = some (.int kd z)) (hz : decide (0 <= z /\ z < m /\ z.toNat * sz + sz <= cs.length) = true) (hw : (cs.drop (z.toNat * sz)).take sz = ws) : iop (st n l hp nx ck mk) (.idxagg m sz true x i) = some (.agg ws, st n l hp nx ck mk) := by
 subst hw;simp only [iop, zag, hx, hi];rw [if_pos (of_decide_eq_true hz), if_pos trivial]
theorem g_mkfn {f : FuncId} {fs cs : List Arg} {a b : List AV} (h1 : zeo fs l = some a) (h2 : zeo cs l = some b) : iop (st n l hp nx ck mk) (.mkfn f fs cs) = some (.fn f a b, st n l hp nx ck mk) := by simp only [iop, zfs, h1, h2]
theorem zve {x : Arg} {i : Nat} {vs : List AV} {v : AV} (hx : zar x l = some (.tup vs)) (hv : vs[i]? = some v) : iop (st n l hp nx ck mk) (.extract x i) = some (v, st n l hp nx ck mk) := by simp only [iop, zag, hx, hv]; rfl
theorem zvh {b : Bool} {a : Arg} {v r : AV} (h : zar a l = some v) (hr : lenA b v = some r) : iop (st n l hp nx ck mk) (.len b a) = some (r, st n l hp nx ck mk) := by simp only [iop, zag, h, hr]; rfl
theorem g_lenc {m : Nat} : iop (st n l hp nx ck mk) (.lenc m) = some (.int .i64 m, st n l hp nx ck mk) := rfl
theorem zvi {b : Bool} {x y : Arg} {kd : IntKind} {p q r : Int} (hx : zar x l = some (.int kd p)) (hy : zar y l = some (.int kd q)) (hr : (if b then (if q > p then q else p) else (if q < p then q else p)) = r) : iop (st n l hp nx ck mk) (.minmax b [x, y]) = some (.int kd r, st n l hp nx ck mk) := by
 subst hr;simp only [iop, AS.args, zag, hx, hy];simp
theorem g_append {sz bytes : Nat} {z : List AV} {s x : Arg} {xv v : AV} {es : List (List AV)} {hp' : List (Nat × Nat × AObj)} {nx' ck' : Nat} {sv : AV} (hs : zar s l = some sv) (hx : zar x l = some xv) (he : (st n [] hp nx ck mk).elems sz xv = some es) (hr : zbv (st n [] hp nx ck mk) sz bytes sv es = some (v, st n [] hp' nx' ck' mk)) :
  iop (st n l hp nx ck mk) (.append sz bytes z s x) = some (v, st n l hp' nx' ck' mk) := by
 have e1 : (st n l hp nx ck mk).elems sz xv = some es := by rw [<- he]; cases xv <;> rfl
 have e2 : ∀ {r : Option (AV × AS)}, zbv (st n [] hp nx ck mk) sz bytes sv es = r -> zbv (st n l hp nx ck mk) sz bytes sv es = r.map fun y => (y.1, { y.2 with tmps := zet l }) := by
  intro r hr;subst hr;unfold zbv;by_cases h0 : es.length = 0
  ·rw [if_pos h0, if_pos h0]; cases sv <;> rfl
  ·rw [if_neg h0, if_neg h0];by_cases h1 : es.flatten.all AV.isCell = true /\ bytes <= 16777216
   ·rw [if_pos h1, if_pos h1];cases sv <;> try rfl
    ·simp only;split <;> rfl
    ·simp only;rename_i id sp sz' off len cap;have eh : ∀ l0, (st n l0 hp nx ck mk).heap = hp := fun _ => rfl;rw [eh, eh];cases look id hp with
     | none => rfl
     | some y =>
      obtain ⟨sp', o⟩ := y;cases o <;> try rfl
      simp only;split
      ·cases cap with
       | none => rfl
       | some c =>
        simp only;split
        ·split <;> rfl
        ·rfl
      ·rfl
   ·rw [if_neg h1, if_neg h1]; rfl
 simp only [iop, zag, hs, hx, e1];rw [e2 hr]; rfl
theorem zpw {sz bytes : Nat} {z : List AV} {s x : Arg} {xv : AV} (es : List (List AV)) {id sp len : Nat} {cs : List AV} (hs : zar s l = some (.ms id sp sz 0 len none)) (hx : zar x l = some xv) (he : (st n l hp nx ck mk).elems sz xv = some es) (hne : es.length ≠ 0)
  (hc : es.flatten.all AV.isCell = true) (hb : bytes <= 16777216) (hl : look id hp = some (sp, .cells cs)) (h1 : len * sz = cs.length) (h2 : len + es.length <= 1048576) :
  iop (st n l hp nx ck mk) (.append sz bytes z s x) = some (.ms id ck sz 0 (len + es.length) none, st n l (zap id (ck, .cells (cs ++ es.flatten)) hp) nx (ck + 1) mk) :=
 zn1 ((zag s).trans hs) ((zag x).trans hx) he hne hc hb hl h1 h2
end
section
variable {P : Program} {w0 : World} {N0 : Nat} {k : List Fr} {Q : Exit -> AS -> Prop} {pf : Kn} {ios : List Opr} {n nx ck : Nat} {mk : List (Nat × Nat)} {md : Md} {l : List (Nat × AV)} {hp : List (Nat × Nat × AObj)}
theorem zan {d : Nat} {x : Arg} {v : AV} (h : zar x l = some v) (go : Om P w0 N0 md pf ios (st n ((d, v) :: l) hp nx ck mk) k Q) : Om P w0 N0 md pf (⟨some d, (.mov x), none⟩ :: ios) (st n l hp nx ck mk) k Q := zdf (zha h) go
theorem zbz {d : Nat} {c a b : Arg} {v : AV} (hc : zar c l = some (.bool true)) (h : zar a l = some v) (go : Om P w0 N0 md pf ios (st n ((d, v) :: l) hp nx ck mk) k Q) : Om P w0 N0 md pf (⟨some d, (.pick c a b), none⟩ :: ios) (st n l hp nx ck mk) k Q := zdf (zvm hc h) go
theorem zb8 {d : Nat} {c a b : Arg} {v : AV} (hc : zar c l = some (.bool false)) (h : zar b l = some v) (go : Om P w0 N0 md pf ios (st n ((d, v) :: l) hp nx ck mk) k Q) : Om P w0 N0 md pf (⟨some d, (.pick c a b), none⟩ :: ios) (st n l hp nx ck mk) k Q := zdf (zvl hc h) go
theorem zce {d : Nat} {z : List AV} (go : Om P w0 N0 md pf ios (st n ((d, .mptr nx ck 0) :: l) ((nx, ck, .cells z) :: hp) (nx + 1) (ck + 1) mk) k Q) : Om P w0 N0 md pf (⟨some d, (.alloc z), none⟩ :: ios) (st n l hp nx ck mk) k Q := zdf (zhz ) go
theorem zd6 {d : Nat} {a : Arg} {v : AV} {cs : List AV} (h : zar a l = some v) (hc : v.cells? = some cs) (go : Om P w0 N0 md pf ios (st n ((d, .mptr nx ck 0) :: l) ((nx, ck, .cells cs) :: hp) (nx + 1) (ck + 1) mk) k Q) : Om P w0 N0 md pf (⟨some d, (.box a), none⟩ :: ios) (st n l hp nx ck mk) k Q := zdf (g_box h hc) go
theorem zi8 {d : Nat} {z cs : List AV} {ps : List (Nat × Nat × Arg)} {pl : List (Nat × AV)} (h : ze9 ps l = some pl) (hf : zbe z pl = some cs) (go : Om P w0 N0 md pf ios (st n ((d, .agg cs) :: l) hp nx ck mk) k Q) : Om P w0 N0 md pf (⟨some d, (.build z ps), none⟩ :: ios) (st n l hp nx ck mk) k Q := zdf (zi0 h hf) go
theorem zcw {d : Nat} {sz len : Nat} {z cs : List AV} {ps : List (Nat × Nat × Arg)} {pl : List (Nat × AV)} (h : ze9 ps l = some pl) (hf : zbe z pl = some cs) (go : Om P w0 N0 md pf ios (st n ((d, .ms nx ck sz 0 len (some len)) :: l) ((nx, ck, .cells cs) :: hp) (nx + 1) (ck + 1) mk) k Q) (hb : pf.fs = false := by rfl) : Om P w0 N0 md pf (⟨some d, (.bslice sz len z ps), none⟩ :: ios) (st n l hp nx ck mk) k Q := zdf (zg9 h hf) go hb
theorem zb0 {d : Nat} {a : Arg} {p v : AV} {cs : List AV} (h : zar a l = some p) (hd : zim hp nx p = some (v :: cs)) (go : Om P w0 N0 md pf ios (st n ((d, v) :: l) hp nx ck mk) k Q) (hx : Ops pf (st n l hp nx ck mk) (.load none a) := by first | exact fun _ _ _ _ => rfl | exact ldOk rfl rfl | exact vpOk rfl) : Om P w0 N0 md pf (⟨some d, (.load none a), none⟩ :: ios) (st n l hp nx ck mk) k Q := zdf (zlo h hd) go hx
theorem zbf {d : Nat} {a : Arg} {p : AV} {m : Nat} {cs ws : List AV} (h : zar a l = some p) (hd : zim hp nx p = some cs) (hm : Nat.ble m cs.length = true) (hw : cs.take m = ws) (go : Om P w0 N0 md pf ios (st n ((d, .agg ws) :: l) hp nx ck mk) k Q) (hx : Ops pf (st n l hp nx ck mk) (.load (some m) a) := by first | exact fun _ _ _ _ => rfl | exact ldOk rfl rfl | exact vpOk rfl) : Om P w0 N0 md pf (⟨some d, (.load (some m) a), none⟩ :: ios) (st n l hp nx ck mk) k Q := zdf (zi1 h hd hm hw) go hx
theorem zaj {size id sp off : Nat} {p x : Arg} {v : AV} {vs cs : List AV} (h : zar p l = some (.mptr id sp off)) (hv : zar x l = some v) (hc : v.cells? = some vs) (hn : Nat.beq vs.length size = true) (hlk : look id hp = some (sp, .cells cs)) (hle : Nat.ble (off + vs.length) cs.length = true) (ha : vs.all AV.isCell = true) (go : Om P w0 N0 md pf ios (st n l (zap id (sp, .cells (setAt off cs vs)) hp) nx ck mk) k Q) (hx : Ops pf (st n l hp nx ck mk) (.store size p x) := by first | exact fun _ _ _ _ => rfl | exact sdOk rfl rfl) : Om P w0 N0 md pf (⟨none, (.store size p x), none⟩ :: ios) (st n l hp nx ck mk) k Q := o_op0 (zf8 h hv hc hn hlk hle ha) go hx
theorem zkh {d : Nat} {a : Arg} {cs : List AV} (h : zar a l = some (.vptr cs)) (go : Om P w0 N0 md pf ios (st n ((d, .vptr cs) :: l) hp nx ck mk) k Q) : Om P w0 N0 md pf (⟨some d, (.nilchk a), none⟩ :: ios) (st n l hp nx ck mk) k Q := zdf (g_nilv h) go
theorem zio {d : Nat} {a : Arg} {id sp off : Nat} (h : zar a l = some (.mptr id sp off)) (go : Om P w0 N0 md pf ios (st n ((d, .mptr id sp off) :: l) hp nx ck mk) k Q) : Om P w0 N0 md pf (⟨some d, (.nilchk a), none⟩ :: ios) (st n l hp nx ck mk) k Q := zdf (zvk h) go
theorem zto {d : Nat} {a : Arg} {op : UnOp} {v r : AV} (h : zar a l = some v) (hr : unOp op v = some r) (go : Om P w0 N0 md pf ios (st n ((d, r) :: l) hp nx ck mk) k Q) : Om P w0 N0 md pf (⟨some d, (.un op a), none⟩ :: ios) (st n l hp nx ck mk) k Q := zdf (g_un h hr) go
theorem zrs {d : Nat} {a : Arg} {kd : IntKind} {v r : AV} (h : zar a l = some v) (hr : zsu kd v = some r) (go : Om P w0 N0 md pf ios (st n ((d, r) :: l) hp nx ck mk) k Q) : Om P w0 N0 md pf (⟨some d, (.conv kd a), none⟩ :: ios) (st n l hp nx ck mk) k Q := zdf (g_conv h hr) go
theorem zcg {d : Nat} {a : Arg} {kd : IntKind} {z : Int} (h : zar a l = some (.int kd z)) (hz : decide (0 <= z /\ z <= 127) = true) (go : Om P w0 N0 md pf ios (st n ((d, .str [UInt8.ofNat z.toNat]) :: l) hp nx ck mk) k Q) : Om P w0 N0 md pf (⟨some d, (.rstr a), none⟩ :: ios) (st n l hp nx ck mk) k Q := zdf (g_rstr h hz) go
theorem zbo {d : Nat} {off : Nat} {x : Arg} {cs ds : List AV} (h : zar x l = some (.vptr cs)) (hle : Nat.ble off cs.length = true) (hd : cs.drop off = ds) (go : Om P w0 N0 md pf ios (st n ((d, .vptr ds) :: l) hp nx ck mk) k Q) : Om P w0 N0 md pf (⟨some d, (.faddr off x), none⟩ :: ios) (st n l hp nx ck mk) k Q := zdf (zh9 h hle hd) go
theorem zae {d : Nat} {off id sp o : Nat} {x : Arg} (h : zar x l = some (.mptr id sp o)) (go : Om P w0 N0 md pf ios (st n ((d, .mptr id sp (o + off)) :: l) hp nx ck mk) k Q) : Om P w0 N0 md pf (⟨some d, (.faddr off x), none⟩ :: ios) (st n l hp nx ck mk) k Q := zdf (zat h) go
theorem zwc {d : Nat} {off : Nat} {x : Arg} {cs : List AV} {v : AV} (h : zar x l = some (.agg cs)) (hv : cs[off]? = some v) (go : Om P w0 N0 md pf ios (st n ((d, v) :: l) hp nx ck mk) k Q) : Om P w0 N0 md pf (⟨some d, (.field off none x), none⟩ :: ios) (st n l hp nx ck mk) k Q := zdf (g_field h hv) go
theorem zrt {d : Nat} {off m : Nat} {x : Arg} {cs ws : List AV} (h : zar x l = some (.agg cs)) (hle : Nat.ble (off + m) cs.length = true) (hw : (cs.drop off).take m = ws) (go : Om P w0 N0 md pf ios (st n ((d, .agg ws) :: l) hp nx ck mk) k Q) : Om P w0 N0 md pf (⟨some d, (.field off (some m) x), none⟩ :: ios) (st n l hp nx ck mk) k Q := zdf (g_fieldn h hle hw) go
theorem zcn {d : Nat} {sz : Nat} {x i : Arg} {es : List (List AV)} {e : List AV} {kd : IntKind} {z : Int} (hx : zar x l = some (.vs es)) (hi : zar i l = some (.int kd z)) (h0 : 0 <= z) (hb : es[z.toNat]? = some e) (he : e.length = sz) (go : Om P w0 N0 md pf ios (st n ((d, .vptr e) :: l) hp nx ck mk) k Q) : Om P w0 N0 md pf (⟨some d, (.idxs sz x i), none⟩ :: ios) (st n l hp nx ck mk) k Q := zdf (zrd hx hi h0 hb he) go
theorem zi9 {d : Nat} {sz : Nat} {x i : Arg} {id sp off len : Nat} {cap : Option Nat} {kd : IntKind} {z : Int} (hx : zar x l = some (.ms id sp sz off len cap)) (hi : zar i l = some (.int kd z)) (h0 : 0 <= z) (hn : z < len) (go : Om P w0 N0 md pf ios (st n ((d, .mptr id sp (off + z.toNat * sz)) :: l) hp nx ck mk) k Q) : Om P w0 N0 md pf (⟨some d, (.idxs sz x i), none⟩ :: ios) (st n l hp nx ck mk) k Q := zdf (zmv hx hi h0 hn) go
theorem zfy {d : Nat} {m sz : Nat} {x i : Arg} {id sp off : Nat} {kd : IntKind} {z : Int} (hx : zar x l = some (.mptr id sp off)) (hi : zar i l = some (.int kd z)) (hz : decide (0 <= z /\ z < m) = true) (go : Om P w0 N0 md pf ios (st n ((d, .mptr id sp (off + z.toNat * sz)) :: l) hp nx ck mk) k Q) : Om P w0 N0 md pf (⟨some d, (.idxarr m sz x i), none⟩ :: ios) (st n l hp nx ck mk) k Q := zdf (zod hx hi hz) go
theorem zou {d : Nat} {m sz : Nat} {x i : Arg} {cs ds : List AV} {kd : IntKind} {z : Int} (hx : zar x l = some (.vptr cs)) (hi : zar i l = some (.int kd z)) (hz : decide (0 <= z /\ z < m /\ z.toNat * sz <= cs.length) = true) (hd : cs.drop (z.toNat * sz) = ds) (go : Om P w0 N0 md pf ios (st n ((d, .vptr ds) :: l) hp nx ck mk) k Q) : Om P w0 N0 md pf (⟨some d, (.idxarr m sz x i), none⟩ :: ios) (st n l hp nx ck mk) k Q := zdf (zvg hx hi hz hd) go
theorem zru {d : Nat} {m : Nat} {x i : Arg} {cs : List AV} {kd : IntKind} {z : Int} {v : AV} (hx : zar x l = some (.agg cs)) (hi : zar i l = some (.int kd z)) (hz : decide (0 <= z /\ z < m /\ z.toNat * 1 + 1 <= cs.length) = true) (hv : cs[z.toNat * 1]? = some v) (go : Om P w0 N0 md pf ios (st n ((d, v) :: l) hp nx ck mk) k Q) : Om P w0 N0 md pf (⟨some d, (.idxagg m 1 false x i), none⟩ :: ios) (st n l hp nx ck mk) k Q := zdf (g_idxagg hx hi hz hv) go
theorem zot {d : Nat} {m sz : Nat} {x i : Arg} {cs ws : List AV} {kd : IntKind} {z : Int} (hx : zar x l = some (.agg cs)) (hi : zar i l = some (.int kd z)) (hz : decide (0 <= z /\ z < m /\ z.toNat * sz + sz <= cs.length) = true) (hw : (cs.drop (z.toNat * sz)).take sz = ws) (go : Om P w0 N0 md pf ios (st n ((d, .agg ws) :: l) hp nx ck mk) k Q) : Om P w0 N0 md pf (⟨some d, (.idxagg m sz true x i), none⟩ :: ios) (st n l hp nx ck mk) k Q := zdf (zvf hx hi hz hw) go
theorem zrw {d : Nat} {f : FuncId} {fs cs : List Arg} {a b : List AV} (h1 : zeo fs l = some a) (h2 : zeo cs l = some b) (go : Om P w0 N0 md pf ios (st n ((d, .fn f a b) :: l) hp nx ck mk) k Q) : Om P w0 N0 md pf (⟨some d, (.mkfn f fs cs), none⟩ :: ios) (st n l hp nx ck mk) k Q := zdf (g_mkfn h1 h2) go
theorem zhi {d : Nat} {x : Arg} {i : Nat} {vs : List AV} {v : AV} (hx : zar x l = some (.tup vs)) (hv : vs[i]? = some v) (go : Om P w0 N0 md pf ios (st n ((d, v) :: l) hp nx ck mk) k Q) : Om P w0 N0 md pf (⟨some d, (.extract x i), none⟩ :: ios) (st n l hp nx ck mk) k Q := zdf (zve hx hv) go
theorem zdb {d : Nat} {b : Bool} {a : Arg} {v r : AV} (h : zar a l = some v) (hr : lenA b v = some r) (go : Om P w0 N0 md pf ios (st n ((d, r) :: l) hp nx ck mk) k Q) : Om P w0 N0 md pf (⟨some d, (.len b a), none⟩ :: ios) (st n l hp nx ck mk) k Q := zdf (zvh h hr) go
theorem o_lenc {d : Nat} {m : Nat} (go : Om P w0 N0 md pf ios (st n ((d, .int .i64 m) :: l) hp nx ck mk) k Q) : Om P w0 N0 md pf (⟨some d, (.lenc m), none⟩ :: ios) (st n l hp nx ck mk) k Q := zdf (g_lenc ) go
theorem zov {d : Nat} {b : Bool} {x y : Arg} {kd : IntKind} {p q r : Int} (hx : zar x l = some (.int kd p)) (hy : zar y l = some (.int kd q)) (hr : (if b then (if q > p then q else p) else (if q < p then q else p)) = r) (go : Om P w0 N0 md pf ios (st n ((d, .int kd r) :: l) hp nx ck mk) k Q) : Om P w0 N0 md pf (⟨some d, (.minmax b [x, y]), none⟩ :: ios) (st n l hp nx ck mk) k Q := zdf (zvi hx hy hr) go
theorem zrq {d : Nat} {sz bytes : Nat} {z : List AV} {s x : Arg} {xv v : AV} {es : List (List AV)} {hp' : List (Nat × Nat × AObj)} {nx' ck' : Nat} {sv : AV} (hs : zar s l = some sv) (hx : zar x l = some xv) (he : (st n [] hp nx ck mk).elems sz xv = some es) (hr : zbv (st n [] hp nx ck mk) sz bytes sv es = some (v, st n [] hp' nx' ck' mk)) (go : Om P w0 N0 md pf ios (st n ((d, v) :: l) hp' nx' ck' mk) k Q) (hxo : Ops pf (st n l hp nx ck mk) (.append sz bytes z s x) := by first | exact fun _ _ _ _ _ _ _ => rfl | exact apOk rfl rfl | exact zw8 rfl) : Om P w0 N0 md pf (⟨some d, (.append sz bytes z s x), none⟩ :: ios) (st n l hp nx ck mk) k Q := zdf (g_append hs hx he hr) go hxo
theorem zgr {d : Nat} {sz bytes : Nat} {z : List AV} {s x : Arg} {xv : AV} (es : List (List AV)) {id sp len : Nat} {cs : List AV} (hs : zar s l = some (.ms id sp sz 0 len none)) (hx : zar x l = some xv) (he : (st n l hp nx ck mk).elems sz xv = some es) (hne : es.length ≠ 0) (hc : es.flatten.all AV.isCell = true) (hb : bytes <= 16777216) (hlk : look id hp = some (sp, .cells cs)) (h1 : len * sz = cs.length) (h2 : len + es.length <= 1048576) (go : Om P w0 N0 md pf ios (st n ((d, .ms id ck sz 0 (len + es.length) none) :: l) (zap id (ck, .cells (cs ++ es.flatten)) hp) nx (ck + 1) mk) k Q) (hxo : Ops pf (st n l hp nx ck mk) (.append sz bytes z s x) := by first | exact fun _ _ _ _ _ _ _ => rfl | exact apOk rfl rfl | exact zw8 rfl) : Om P w0 N0 md pf (⟨some d, (.append sz bytes z s x), none⟩ :: ios) (st n l hp nx ck mk) k Q := zdf (zpw es hs hx he hne hc hb hlk h1 h2) go hxo
end
inductive RenA (live : List (Nat × Nat × List AV)) (l : List (Nat × AV)) : List (Nat × AV) -> Prop
 | nil : RenA live l []
 | cons {d : Nat} {v v' : AV} {l' : List (Nat × AV)} (h : zah d l = some v) (r : RenV live v v') (k : RenA live l l') : RenA live l ((d, v') :: l')
inductive RenH (all : List (Nat × Nat × List AV)) (hp : List (Nat × Nat × AObj)) : List (Nat × Nat × List AV) -> Prop
 | nil : RenH all hp []
 | cons {id sp : Nat} {cs cs' : List AV} {l : List (Nat × Nat × List AV)} (h : look id hp = some (sp, .cells cs)) (hn : cs'.length = cs.length) (r : ∀ (i : Nat) (u v : AV), cs[i]? = some u -> cs'[i]? = some v -> RenV all u v) (k : RenH all hp l) : RenH all hp ((id, sp, cs') :: l)
section
variable {w0 : World} {N0 n nx nx' ck : Nat} {l l' : List (Nat × AV)} {hp hp' : List (Nat × Nat × AObj)}
end
theorem za6 {P : Program} {E : Env} (hE : EnvOk P E) {f : FuncId} {n : Nat} {ic : IC} {ras : List RA} (hf : E.fn f = some ⟨n, ic, ras⟩) {args : List AV} {v : AV} (l : List (Nat × AV)) (hn : args.length <= n) (hl : enum 0 args = zet l)
  (h : ∀ w0 N0, Z P w0 N0 ic (st n l [] 0 0) [] fun e S' => (e = .normal \/ e = .ret) /\ ∃ v0, S'.leave.res ras = some v0 /\ (⟨0, .nil, S'.leave.heap, S'.leave.next, S'.leave.clk, []⟩ : AS).view VD v0 = v) : PF P f args v := by
 obtain ⟨fn, code, k1, k2, k3, k4, k5, k6⟩ := hE.fn f _ hf;refine PF_of_T0 k1 k2 k3 k6 (by rw [k4]; exact hn) k5 fun w0 N0 => ?_;rw [k4];have e : AS.enter n args ⟨[], 0, 0⟩ = st n l [] 0 0 := by
  unfold AS.enter st;rw [hl]
 show T0 P w0 N0 ic (AS.enter n args ⟨[], 0, 0⟩) _;rw [e];exact (h w0 N0).ok
section
variable {P : Program} {w0 w : World} {N0 : Nat} {S S' : AS} {k : List Fr} {Q : Exit -> AS -> Prop} {pf : Kn} {ios : List Opr} {n nx ck : Nat} {mk : List (Nat × Nat)} {md : Md} {l : List (Nat × AV)} {hp : List (Nat × Nat × AObj)}
theorem zbl {E : Env} (hE : EnvOk P E) {f : FuncId} {ic : IC} {ras : List RA} (hf : E.fn f = some ⟨n, ic, ras⟩) {args : List AV} {H : HS} {F : AV -> HS -> Prop} (l : List (Nat × AV)) (hn : args.length <= n) (hl : enum 0 args = zet l)
  (h : Zm P w0 N0 (some none) ic (st n l H.heap H.next H.clk) [] fun e S' => (e = .normal \/ e = .ret) /\ ∃ v, S'.leave.res ras = some v /\ F v S'.leave.hs) : FT P w0 N0 f args H F := by
 obtain ⟨fn, code, k1, k2, k3, k4, k5, k6⟩ := hE.fn f _ hf;refine FT_of_T k1 k2 k3 k6 (by rw [k4]; exact hn) k5 ?_;rw [k4];have e : AS.enter n args H = st n l H.heap H.next H.clk := by
  unfold AS.enter st;rw [hl]
 show T P w0 N0 none ic (AS.enter n args H) _;rw [e];exact h.ok
def RangeU (P : Program) (w0 : World) (N0 : Nat) (md : Md) (n : Nat) (l : List (Nat × AV)) (lid lsp : Nat) (mk : List (Nat × Nat)) (k : List Fr) (Q : Exit -> AS -> Prop) (H2 : HS) : Prop :=
 ∃ stt pe e tmps size ps' ca' cb' df, Am.look lid H2.heap = some (lsp, .loop stt pe size tmps ps' ca' cb' df) /\ stt ≠ .busy /\ zrb pe = some e /\ zco mk (zbx lid H2.heap) /\
  Um P w0 N0 md e (st n l (zbx lid H2.heap) H2.next H2.clk mk) k Q
theorem zxl (hmd : md = none \/ md = some none) {g : Arg} {ps : List Nat} {ca cb : Code} {ia ib : IC} {fid : FuncId} {first cap : List AV} (hg : zar g l = some (.fn fid first cap))
  (h : Com P ca ia -> Com P cb ib -> FT P w0 N0 fid (first ++ [.yield (nx + 1) (ck + 1)] ++ cap) ⟨(nx + 1, ck + 1, .loop .ready none n (zet l) ps ca cb (nx, ck)) :: (nx, ck, .deferred) :: hp, nx + 2, ck + 2⟩ fun _ H2 => RangeU P w0 N0 md n l (nx + 1) (ck + 1) ((nx, ck) :: mk) k Q H2) :
  Zm P w0 N0 md (.rangeFunc g ps ca cb ia ib) (st n l hp nx ck mk) k Q := by
 have key : T P w0 N0 none (.rangeFunc g ps ca cb ia ib) (st n l hp nx ck mk) (unw P w0 N0 md k Q) := by
  refine zmi ((zag g).trans hg) fun h1 h2 => (h h1 h2).mono fun v H2 ⟨stt, pe, e, tmps, size, ps', ca', cb', df, a1, a2, a3, a4, a5⟩ => ?_;exact ⟨stt, pe, e, tmps, size, ps', ca', cb', df, a1, a2, a3, a4, a5.ok⟩
 rcases hmd with rfl | rfl
 ·exact ⟨ztt key⟩
 ·exact ⟨key⟩
def zqk (id sp : Nat) (F : AV -> HS -> Prop) (e : Exit) (S2 : AS) : Prop :=
 ∃ size2 tmps2 ps2 ca2 cb2 df2, Am.look id S2.heap = some (sp, .loop .busy none size2 tmps2 ps2 ca2 cb2 df2) /\
  ∃ j, zri e = some j /\ F (.bool j.isNone) ⟨zap id (sp, .loop (if j.isNone then .ready else .done) j size2 tmps2 ps2 ca2 cb2 df2) S2.heap, S2.next, S2.clk⟩
theorem ct_yield {id sp size : Nat} {args : List AV} {ltm l0 : List (Nat × AV)} {ps : List Nat} {ca cb : Code} {df : Nat × Nat} {ia ib : IC} {H : HS} {F : AV -> HS -> Prop} (hl : Am.look id H.heap = some (sp, .loop .ready none size (zet ltm) ps ca cb df))
  (ha : Com P ca ia) (hb : Com P cb ib) (hps : ps.length = args.length) (hlt : ∀ p ∈ ps, p < size) (hput : ziq ps args (zet ltm) = zet l0)
  (h : Zm P w0 N0 (some (some (id, sp))) ia (st size l0 H.heap H.next H.clk) [] fun e S1 => e = .normal /\ ∃ l1, S1 = st size l1 H.heap H.next H.clk /\
   Zm P w0 N0 (some (some (id, sp))) ib (st size l1 (zap id (sp, .loop .busy none size (zet ltm) ps ca cb df) H.heap) H.next H.clk) [] (zqk id sp F)) : CT P w0 N0 (.yield id sp) args H F := by
 refine zmg hl ha hb hps hlt ?_;have e : AS.round size (zet ltm) ps args H = st size l0 H.heap H.next H.clk := by
  unfold AS.round st;rw [hput]
 rw [e];refine zgz h.ok fun e S1 ⟨he, l1, hS, hz⟩ => ⟨he, ?_⟩
 subst hS;exact ⟨size, zet ltm, ps, ca, cb, df, hl, hz.ok⟩
theorem zgo {fid : FuncId} {first cap args : List AV} {H : HS} {F : AV -> HS -> Prop} (h : FT P w0 N0 fid (first ++ args ++ cap) H F) : CT P w0 N0 (.fn fid first cap) args H F := zbk h
theorem za5 {α : Type} {a b : Nat} {v : α} {hp : List (Nat × α)} (h : a < b) : Am.look a ((b, v) :: hp) = Am.look a hp := by
 rw [zak, if_neg (by omega)]
theorem za3 {α : Type} {a : Nat} {v : α} {hp : List (Nat × α)} : Am.look a ((a, v) :: hp) = some v := by
 rw [zak, if_pos rfl]
theorem zba {a : Arg} {id sp off : Nat} {cs : List AV} {v : AV} {ws : List AV} (h : zar a l = some (.mptr id sp off)) (hl : Am.look id hp = some (sp, .cells cs)) (hid : id < nx) (hd : cs.drop off = v :: ws) : iop (st n l hp nx ck mk) (.load none a) = some (v, st n l hp nx ck mk) := by
 refine zlo h (cs := ws) ?_;simp only [zim, hl];rw [if_pos ⟨trivial, hid⟩, hd]
theorem zf7 {a : Arg} {id sp off m : Nat} {cs ws : List AV} (h : zar a l = some (.mptr id sp off)) (hl : Am.look id hp = some (sp, .cells cs)) (hid : id < nx) (hm : Nat.ble m (cs.drop off).length = true) (hd : (cs.drop off).take m = ws) : iop (st n l hp nx ck mk) (.load (some m) a) = some (.agg ws, st n l hp nx ck mk) := by
 refine zi1 h (cs := cs.drop off) ?_ hm hd;simp only [zim, hl];rw [if_pos ⟨trivial, hid⟩]
theorem zab {d : Nat} {a : Arg} {id sp off : Nat} {cs : List AV} {v : AV} {ws : List AV} (h : zar a l = some (.mptr id sp off)) (hl : Am.look id hp = some (sp, .cells cs)) (hid : id < nx) (hd : cs.drop off = v :: ws) (go : Om P w0 N0 md pf ios (st n ((d, v) :: l) hp nx ck mk) k Q) (hx : Ops pf (st n l hp nx ck mk) (.load none a) := by first | exact fun _ _ _ _ => rfl | exact ldOk rfl rfl) :
  Om P w0 N0 md pf (⟨some d, .load none a, none⟩ :: ios) (st n l hp nx ck mk) k Q := zdf (zba h hl hid hd) go hx
theorem zbp {d : Nat} {a : Arg} {id sp off m : Nat} {cs ws : List AV} (h : zar a l = some (.mptr id sp off)) (hl : Am.look id hp = some (sp, .cells cs)) (hid : id < nx) (hm : Nat.ble m (cs.drop off).length = true) (hd : (cs.drop off).take m = ws) (go : Om P w0 N0 md pf ios (st n ((d, .agg ws) :: l) hp nx ck mk) k Q) (hx : Ops pf (st n l hp nx ck mk) (.load (some m) a) := by first | exact fun _ _ _ _ => rfl | exact ldOk rfl rfl) :
  Om P w0 N0 md pf (⟨some d, .load (some m) a, none⟩ :: ios) (st n l hp nx ck mk) k Q := zdf (zf7 h hl hid hm hd) go hx
end
inductive KeepA (l : List (Nat × AV)) : List (Nat × AV) -> Prop
 | nil : KeepA l []
 | cons {d : Nat} {v : AV} {l' : List (Nat × AV)} (h : zah d l = some v) (k : KeepA l l') : KeepA l ((d, v) :: l')
theorem KeepA.get {l l' : List (Nat × AV)} (h : KeepA l l') : ∀ x ∈ l', zah x.1 l = some x.2 := by
 induction h with
 | nil => intro x hx; cases hx
 | cons h _ ih =>
  intro x hx;rcases y0f.1 hx with rfl | hx
  ·exact h
  ·exact ih x hx
theorem zb9 {w0 : World} {N0 n nx ck : Nat} {md : Md} {mk : List (Nat × Nat)} {l l' : List (Nat × AV)} {hp : List (Nat × Nat × AObj)} (h : KeepA l l') : Subm w0 N0 md (st n l hp nx ck mk) (st n l' hp nx ck mk) :=
 Subm.of_sub (Sub.tm (l := l') rfl rfl rfl rfl rfl fun x hx => (zd4 x.1 l).trans (h.get x hx))
inductive Ex where
 | nd (op ix : Int) (args : List Ex)
mutual
def cX : Ex -> List AV
 | .nd op ix args => [.int .i64 op, .int .i64 ix, .vs (cXs args)]
def cXs : List Ex -> List (List AV)
 | [] => []
 | x :: xs => cX x :: cXs xs
end
theorem zqw : ∀ l : List Ex, cXs l = l.map cX
 | [] => by simp [cXs]
 | x :: xs => by simp [cXs, zqw xs]
inductive Slim : Ex -> Prop
 | nd {op ix : Int} {args : List Ex} (h : args.length < 9223372036854775808) (k : ∀ y ∈ args, Slim y) : Slim (.nd op ix args)
theorem ze2 {l : List Ex} {i : Nat} (h : i < l.length) : (cXs l)[((i : Nat) : Int).toNat]? = some (cX l[i]) := by
 rw [zqw, y1e, y0n, y0d h];rfl
theorem zai (l : List Ex) : (cXs l).length = l.length := by rw [zqw, y06]
theorem zgm {op ix : Int} {args : List Ex} {y : Ex} (h : y ∈ args) : SizeOf.sizeOf y < SizeOf.sizeOf (Ex.nd op ix args) := by
 have := List.sizeOf_lt_of_mem h;simp only [Ex.nd.sizeOf_spec];omega
def Ex.args : Ex -> List Ex
 | .nd _ _ a => a
section
variable {σ τ : Type} (step : σ -> Int -> Ex -> σ ⊕ τ)
mutual
def zfm (d : Int) : Ex -> σ -> σ ⊕ τ
 | .nd op ix args, s => match step s d (.nd op ix args) with
  | .inr t => .inr t
  | .inl s' => zgh d args s'
def zgh (d : Int) : List Ex -> σ -> σ ⊕ τ
 | [], s => .inl s
 | y :: ys, s => match (if d <= 16 then zfm (d + 1) y s else .inl s) with
  | .inr t => .inr t
  | .inl s' => zgh d ys s'
end
end
structure Keep (M : Nat -> Prop) (H H' : HS) : Prop where
 next : H.next <= H'.next
 clk : H.clk <= H'.clk
 look : ∀ i, ¬ M i -> i < H.next -> Am.look i H'.heap = Am.look i H.heap
theorem Keep.refl (M : Nat -> Prop) (H : HS) : Keep M H H := ⟨y08 _, y08 _, fun _ _ _ => rfl⟩
theorem Keep.trans {M : Nat -> Prop} {H H' H'' : HS} (h : Keep M H H') (k : Keep M H' H'') : Keep M H H'' :=
 ⟨y0u h.next k.next, y0u h.clk k.clk, fun i hm hi => (k.look i hm (y09 hi h.next)).trans (h.look i hm hi)⟩
theorem Keep.new (M : Nat -> Prop) (H : HS) (o : Nat × AObj) : Keep M H ⟨(H.next, o) :: H.heap, H.next + 1, H.clk + 1⟩ :=
 ⟨y0y _, y0y _, fun _ _ hi => za5 hi⟩
theorem zc7 {α : Type} {a : Nat} {u v : α} {hp : List (Nat × α)} : zap a v ((a, u) :: hp) = (a, v) :: hp := by
 rw [zoz, if_pos rfl]
structure Local {σ : Type} (M : Nat -> Prop) (I : σ -> HS -> Prop) : Prop where
 lt : ∀ s H, I s H -> ∀ i, M i -> i < H.next
 of : ∀ s H H', I s H -> H.next <= H'.next -> (∀ i, M i -> Am.look i H'.heap = Am.look i H.heap) -> I s H'
theorem Local.new {σ : Type} {M : Nat -> Prop} {I : σ -> HS -> Prop} (h : Local M I) {s : σ} {H : HS} (hi : I s H) (o : Nat × AObj) (ck : Nat) : I s ⟨(H.next, o) :: H.heap, H.next + 1, ck⟩ :=
 h.of s H _ hi (y0y _) fun i hm => za5 (h.lt s H hi i hm)
end Go.Am
namespace Go.Am
open Go Go.RowKit Go.ChangeShapes Go.WideShapes Go.ChangeAt Go.Deep
section
variable {H : Type}
theorem elems_lt {x d : DataW H} (h : x ∈ zc8 d) : SizeOf.sizeOf x < SizeOf.sizeOf d := by
 cases d with
 | slice es sp =>
  have := List.sizeOf_lt_of_mem (show x ∈ es from h)
  simp only [DataW.slice.sizeOf_spec];omega
 | _ => exact absurd h y0c
def zme (d : DataW H) : DataW H := (zd8 d).tail.tail.headD .nil
theorem zni {x d : DataW H} (h : x ∈ zc8 (zme d)) : SizeOf.sizeOf x < SizeOf.sizeOf d := by
 cases d with
 | agg ds =>
  match ds, h with
  | [], h => exact absurd h y0c
  | [_], h => exact absurd h y0c
  | [_, _], h => exact absurd h y0c
  | a :: b :: c :: l, h =>
   have h1 := elems_lt (show x ∈ zc8 c from h)
   have h2 := List.sizeOf_lt_of_mem (show c ∈ a :: b :: c :: l by simp)
   simp only [DataW.agg.sizeOf_spec];omega
 | _ => exact absurd h y0c
def exD (d : DataW H) : Ex := .nd (znt ((zd8 d).headD .nil)) (znt ((zd8 d).tail.headD .nil)) ((zc8 (zme d)).attach.map fun x => exD x.1)
termination_by SizeOf.sizeOf d
decreasing_by exact zni x.2
theorem exD_eq (d : DataW H) : exD d = .nd (znt ((zd8 d).headD .nil)) (znt ((zd8 d).tail.headD .nil)) ((zc8 (zme d)).map exD) := by
 rw [exD];congr 1;exact List.attach_map_val (f := exD) (l := zc8 (zme d))
theorem cX_exD (d : DataW H) : cX (exD d) = zbj [zl3 .i64, zl3 .i64, zbr fun x => cX (exD x)] d := by
 rw [exD_eq, cX, zqw, y2d];rfl
variable {enc : TypeId × Value -> H} {P : Program} {w : World} {base : Nat} {spare : Nat -> Bool} {held : Bool}
theorem rd_tree {t s k : TypeId} {fs : Array Field} (ht : P.underlying t = some (.struct fs)) (hf : fs.toList.map (·.type) = [k, k, s]) (hk : P.underlying k = some (.int .i64)) (hkc : P.cellsOf k = 1) (hs : P.underlying s = some (.slice t)) (hsc : P.cellsOf s = 1) (htc : 0 < P.cellsOf t) (hp : zkj P fs.toList 0 (P.cellsOf t) = true) :
  Rd enc P w base spare held t fun d => cX (exD d) := by
 have key : ∀ (N : Nat) (d : DataW H), SizeOf.sizeOf d <= N -> ∀ n cs p, DataW.trod enc P w base spare held n t cs = some (d, p) -> CRel w (fun _ => True) none (cX (exD d)) cs.toArray /\ (cX (exD d)).length = P.cellsOf t := by
  intro N
  induction N with
  | zero => intro d hd; cases d <;> simp at hd
  | succ N ih =>
   intro d hd n cs p h;rw [cX_exD];have hsz : fs.size = 3 := by
    have := congrArg List.length hf;simpa using this
   refine zp2 (gs := [zl3 .i64, zl3 .i64, zbr fun x => cX (exD x)]) ht hsz.symm hp h fun i f g d' e1 e2 e3 n' cs' p' h' => ?_;have et : (fs.toList.map (·.type))[i]? = some f.type := by
    rw [y0n];have : fs.toList[i]? = some f := by simpa using e1
    rw [this]; rfl
   rw [hf] at et
   match i, e2, et with
   | 0, e2, et =>
    injection e2 with e2; injection et with et; subst e2; rw [<- et] at h' ⊢;exact zs2 hk hkc _ _ _ _ h'
   | 1, e2, et =>
    injection e2 with e2; injection et with et; subst e2; rw [<- et] at h' ⊢;exact zs2 hk hkc _ _ _ _ h'
   | 2, e2, et =>
    injection e2 with e2; injection et with et; subst e2; rw [<- et] at h' ⊢;have e4 : zme d = d' := by
     unfold zme
     match zd8 d, e3 with
     | a :: b :: c :: l, e3 => exact y2p e3
    refine zqb hs hsc htc h' fun x hx n2 cs2 p2 h2 => ih x ?_ n2 cs2 p2 h2;have := zni (d := d) (x := x) (by rw [e4]; exact hx);omega
   | i + 3, e2, et => simp at et
 exact fun n cs d p h => key _ d (y08 _) n cs p h
theorem zwz {t s k : TypeId} {fs : Array Field} (ht : P.underlying t = some (.struct fs)) (hf : fs.toList.map (·.type) = [k, k, s]) (hs : P.underlying s = some (.slice t)) :
  ∀ (N : Nat) (d : DataW H), SizeOf.sizeOf d <= N -> ∀ n cs p, DataW.trod enc P w base spare held n t cs = some (d, p) -> Slim (exD d) := by
 intro N
 induction N with
 | zero => intro d hd; cases d <;> simp at hd
 | succ N ih =>
  intro d hd n cs p h;have hsz : fs.size = 3 := by
   have := congrArg List.length hf;simpa using this
  obtain ⟨xs, n', _, hx, hlen, hxl, hall⟩ := DataW.trod_struct ht h;simp only [y0b] at hx;obtain ⟨rfl, rfl⟩ := hx;rw [exD_eq];obtain ⟨x0, x1, x2, rfl⟩ : ∃ a b c, xs = [a, b, c] := by
   match xs, hxl.trans hsz with
   | [a, b, c], _ => exact ⟨a, b, c, rfl⟩
  ·obtain ⟨f, hf2⟩ : ∃ f, fs[2]? = some f := ⟨fs[2]'(by omega), by simp [hsz]⟩
   have et : (fs.toList.map (·.type))[2]? = some f.type := by
    rw [y0n];have : fs.toList[2]? = some f := by simpa using hf2
    rw [this]; rfl
   rw [hf] at et;have et : s = f.type := y2p et;have h2 := hall 2 f hf2;rw [<- et] at h2;have h2' : _ = some x2 := h2;have lt : ∀ x, x ∈ zc8 x2.1 -> SizeOf.sizeOf x <= N := fun x hx => by
    have h5 := zni (d := .agg [x0.1, x1.1, x2.1]) (x := x) hx;have h6 : SizeOf.sizeOf (DataW.agg [x0.1, x1.1, x2.1]) <= N + 1 := hd;omega
   show Slim (.nd _ _ ((zc8 x2.1).map exD));rcases Deep.open_slice hs h2' with ⟨_, hx⟩ | ⟨a, len, cap, m, n2, D, Pl, _, hb, hle, hm, hmm, hx, hel⟩
   ·subst hx;exact .nd (by show 0 < _; decide) fun y hy => absurd hy y0c
   ·subst hx;have hlm : len <= m := by rw [hmm]; split <;> omega
    refine .nd ?_ fun y hy => ?_
    ·rw [y06];show ((List.range len).map D).length < _;rw [y06, y1v];have : maxLen = 9223372036854775807 := rfl;omega
    ·obtain ⟨x, hx, rfl⟩ := y0p.1 hy;have hx' : x ∈ (List.range len).map D := hx;obtain ⟨i, hi, rfl⟩ := y0p.1 hx';obtain ⟨cs', h1, h3⟩ := hel i (by have := y0m.1 hi; omega)
     exact ih (D i) (lt _ hx) _ _ _ h3
end
end Go.Am
