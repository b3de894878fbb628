/-
  AN ABSTRACT MACHINE FOR PROOFS, PART 9. A general base for proofs: no program is named here.
-/
import Derived.Test.YtdolbghhcijonaaGreatNA8
namespace Go.Am
open Go Go.RowKit
theorem zbb (n : Int) (h0 : -9223372036854775808 <= n) (h1 : n < 9223372036854775808) : IntKind.i64.wrap n = n := by
 by_cases h : 0 <= n
 ·exact wrap_small n h h1
 ·have hm : n % 18446744073709551616 = n + 18446744073709551616 := by omega
  unfold IntKind.wrap;simp [IntKind.bits, IntKind.signed, hm];omega
def fzl : Nat -> Nat -> List (Nat × Nat × List AV) -> Option (List AV)
 | _, _, [] => none
 | id, sp, (i, s, cs) :: l => match Nat.beq i id && Nat.beq s sp with
  | true => some cs
  | false => fzl id sp l
theorem zmu {id sp : Nat} {cs : List AV} : ∀ {l : List (Nat × Nat × List AV)}, fzl id sp l = some cs -> (id, sp, cs) ∈ l
 | [], h => by cases h
 | (i, s, c) :: l, h => by
  simp only [fzl] at h;split at h
  ·rename_i e;simp only [y0g] at e;obtain rfl := y14 e.1;obtain rfl := y14 e.2;injection h with h;subst h;exact y01 ..
  ·exact y0a _ (zmu h)
abbrev zit := List (Option (Nat × Nat) × List AV)
inductive RenW (live : zit) (fz : List (Nat × Nat × List AV)) : AV -> AV -> Prop
 | same {v} (h : hasM v = false) : RenW live fz v v
 | top {v} : RenW live fz v .top
 | mptr {id st off k cs} (h : live[k]? = some (some (id, st), cs)) : RenW live fz (.mptr id st off) (.mptr k 0 off)
 | ms {id st sz off len cap k cs} (h : live[k]? = some (some (id, st), cs)) : RenW live fz (.ms id st sz off len cap) (.ms k 0 sz off len cap)
 | grow {sz k} (h : live[k]? = some (none, [])) : RenW live fz .nils (.ms k 0 sz 0 0 none)
 | nilvs : RenW live fz .nils (.vs [])
 | fptr {id st off cs ds} (h : fzl id st fz = some cs) (hd : cs.drop off = ds) : RenW live fz (.mptr id st off) (.vptr ds)
 | fms {id st sz off len cap cs xs} (h : fzl id st fz = some cs) (hl : xs.length = len) (hs : ∀ x ∈ xs, x.length = sz) (hf : ∃ ys, cs.drop off = xs.flatten ++ ys) : RenW live fz (.ms id st sz off len cap) (.vs xs)
 | agg {xs ys : List AV} (hl : ys.length = xs.length) (h : ∀ (i : Nat) (x y : AV), xs[i]? = some x -> ys[i]? = some y -> RenW live fz x y) : RenW live fz (.agg xs) (.agg ys)
 | fn {f : FuncId} {xs ys cs ds : List AV} (hl : ys.length = xs.length) (hc : ds.length = cs.length) (h : ∀ (i : Nat) (x y : AV), xs[i]? = some x -> ys[i]? = some y -> RenW live fz x y) (k : ∀ (i : Nat) (x y : AV), cs[i]? = some x -> ds[i]? = some y -> RenW live fz x y) : RenW live fz (.fn f xs cs) (.fn f ys ds)
def zl5 : Nat -> zit -> List (Nat × Nat × AObj)
 | _, [] => []
 | k, (_, cs) :: l => (k, 0, .cells cs) :: zl5 (k + 1) l
theorem zly : ∀ (l : zit) (b k : Nat), look k (zl5 b l) = if b <= k then (l[k - b]?).map fun x => (0, .cells x.2) else none
 | [], b, k => by simp [zl5, zeg]
 | (i, cs) :: l, b, k => by
  simp only [zl5, zak, zly l (b + 1) k];by_cases e : b = k
  ·subst e; simp
  ·rw [if_neg e];by_cases h : b <= k
   ·rw [if_pos h, if_pos (by omega), show k - b = (k - (b + 1)) + 1 from by omega]; rfl
   ·rw [if_neg h, if_neg (by omega)]
def zt2 (i : Nat) : List Nat -> Bool
 | [] => false
 | j :: l => Nat.beq j i || zt2 i l
theorem zj4 {i : Nat} : ∀ {l : List Nat}, zt2 i l = true ↔ i ∈ l
 | [] => by simp [zt2]
 | j :: l => by
  rw [zt2, y0v, zj4, y0f];exact or_congr ⟨fun h => (y14 h).symm, fun h => by rw [h]; exact y2h j⟩ Iff.rfl
def okW : List Nat -> zit -> Bool
 | _, [] => true
 | zfp, (none, cs) :: l => cs.isEmpty && okW zfp l
 | zfp, (some (id, _), _) :: l => !zt2 id zfp && okW (id :: zfp) l
theorem zhj : ∀ {live : zit} {zfp : List Nat}, okW zfp live = true -> ∀ (k id st : Nat) (cs : List AV), live[k]? = some (some (id, st), cs) -> id ∉ zfp
 | [], _, _, k, id, st, cs, e => by simp at e
 | (none, c) :: l, zfp, h, k, id, st, cs, e => by
  simp only [okW, y0g] at h;cases k with
  | zero => simp at e
  | succ k => exact zhj h.2 k id st cs (by simpa using e)
 | (some (i, s), c) :: l, zfp, h, k, id, st, cs, e => by
  simp only [okW, y0g, y1u] at h;cases k with
  | zero =>
   simp only [y1h, y00, y0b] at e;obtain ⟨⟨rfl, _⟩, _⟩ := e;intro hm;rw [zj4.2 hm] at h;exact absurd h.1 (by decide)
  | succ k => exact fun hm => zhj h.2 k id st cs (by simpa using e) (y0a _ hm)
theorem zwf : ∀ {live : zit} {zfp : List Nat}, okW zfp live = true -> ∀ (k k' id st st' : Nat) (cs cs' : List AV), live[k]? = some (some (id, st), cs) -> live[k']? = some (some (id, st'), cs') -> k = k'
 | [], _, _, k, k', id, st, st', cs, cs', e, _ => by simp at e
 | (o, c) :: l, zfp, h, k, k', id, st, st', cs, cs', e, e' => by
  have tl : ∃ seen', okW seen' l = true /\ ∀ i s, o = some (i, s) -> i ∈ seen' := by
   cases o with
   | none =>
    simp only [okW, y0g] at h;exact ⟨_, h.2, fun i s hh => by cases hh⟩
   | some p =>
    obtain ⟨i, s⟩ := p;simp only [okW, y0g] at h;exact ⟨_, h.2, fun i' s' hh => by injection hh with hh; injection hh with h1 h2; subst h1; exact y01 ..⟩
  obtain ⟨seen', h1, h2⟩ := tl;cases k with
  | zero =>
   cases k' with
   | zero => rfl
   | succ k' =>
    simp only [y1h, y00, y0b] at e;exact absurd (h2 _ _ e.1) (zhj h1 k' id st' cs' (by simpa using e'))
  | succ k =>
   cases k' with
   | zero =>
    simp only [y1h, y00, y0b] at e';exact absurd (h2 _ _ e'.1) (zhj h1 k id st cs (by simpa using e))
   | succ k' => exact congrArg _ (zwf h1 k k' id st st' cs cs' (by simpa using e) (by simpa using e'))
section
variable {w0 : World} {N0 : Nat} {S : AS}
def zpr : Nat -> Nat -> List (Nat × Nat × AObj)
 | _, 0 => []
 | b, m + 1 => (b, 0, .deferred) :: zpr (b + 1) m
def zt3 : Nat -> Nat -> List (Nat × Nat)
 | _, 0 => []
 | b, m + 1 => (b, 0) :: zt3 (b + 1) m
theorem zka {α : Type} (k : Nat) : ∀ a b : List (Nat × α), look k (a ++ b) = match look k a with
  | some x => some x
  | none => look k b
 | [], b => by rw [zeg]; rfl
 | (j, v) :: a, b => by
  rw [List.cons_append, zak, zak, zka k a b];by_cases e : j = k
  ·rw [if_pos e, if_pos e]
  ·rw [if_neg e, if_neg e]
theorem zlx (k : Nat) : ∀ m b : Nat, look k (zpr b m) = if b <= k /\ k < b + m then some (0, .deferred) else none
 | 0, b => by rw [if_neg (by omega)]; rfl
 | m + 1, b => by
  rw [zpr, zak, zlx k m (b + 1)];by_cases e : b = k
  ·rw [if_pos e, if_pos (by omega)]
  ·rw [if_neg e];by_cases h : b + 1 <= k /\ k < b + 1 + m
   ·rw [if_pos h, if_pos (by omega)]
   ·rw [if_neg h, if_neg (by omega)]
theorem zkg : ∀ m b : Nat, (zt3 b m).length = m
 | 0, _ => rfl
 | m + 1, b => by rw [zt3, y19, zkg m]
theorem zn8 : ∀ m b i : Nat, (zt3 b m)[i]? = if i < m then some (b + i, 0) else none
 | 0, b, i => by simp [zt3]
 | m + 1, b, 0 => by simp [zt3]
 | m + 1, b, i + 1 => by
  rw [zt3, List.getElem?_cons_succ, zn8 m (b + 1) i];by_cases h : i < m
  ·rw [if_pos h, if_pos (by omega), show b + 1 + i = b + (i + 1) from by omega]
  ·rw [if_neg h, if_neg (by omega)]
theorem mksW_mem {m b : Nat} {z : Nat × Nat} (h : z ∈ zt3 b m) : b <= z.1 /\ z.1 < b + m /\ z.2 = 0 := by
 obtain ⟨i, hi⟩ := List.mem_iff_getElem?.1 h;rw [zn8] at hi;by_cases e : i < m
 ·rw [if_pos e] at hi;injection hi with hi;subst hi;exact ⟨Nat.le_add_right .., by show b + i < b + m; omega, rfl⟩
 ·rw [if_neg e] at hi;cases hi
theorem zlz : ∀ m b : Nat, ((zt3 b m).map (·.1)).Nodup
 | 0, _ => by simp [zt3]
 | m + 1, b => by
  rw [zt3, y1d, y2k];refine ⟨fun h => ?_, zlz m (b + 1)⟩;obtain ⟨z, hz, e⟩ := y0p.1 h;have := (mksW_mem hz).1;omega
theorem Sub0.renw {l : List (Nat × AV)} {n nx : Nat} {hp : List (Nat × Nat × AObj)} (live : zit) (fz : List (Nat × Nat × List AV)) (h1 : n = S.size) (h2 : hp = zl5 0 live ++ zpr live.length S.marks.length) (h3 : nx = S.marks.length + live.length) (hok : okW (fz.map (·.1)) live = true)
  (hl : ∀ x ∈ live, ∀ i s, x.1 = some (i, s) -> ∃ cs, look i S.heap = some (s, .cells cs) /\ x.2.length = cs.length /\ ∀ (i : Nat) (u v : AV), cs[i]? = some u -> x.2[i]? = some v -> RenW live fz u v)
  (hf : ∀ x ∈ fz, look x.1 S.heap = some (x.2.1, .cells x.2.2) /\ hasM.hasML x.2.2 = false)
  (ht : ∀ x ∈ l, ∃ v, zao x.1 S.tmps = some v /\ RenW live fz v x.2) : Sub0 w0 N0 S ⟨n, zet l, hp, nx, 1, zt3 live.length S.marks.length⟩ := by
 subst h1 h2 h3;intro I a w h;have hmk : ∀ (j : Nat) (x : Nat × Nat), S.marks[j]? = some x -> look x.1 S.heap = some (x.2, .deferred) /\ ∃ b base m, I.loc x.1 x.2 = some (.at b base m) /\ a.defers[j]? = some ({ target := .collected b, args := #[] } : Deferred) := by
  intro j x hx;have hj : j < a.defers.length := by rw [h.marks.1]; exact (y05.1 hx).1
  obtain ⟨e1, b, base, m, e2, e3⟩ := h.marks.2.1 j x.1 x.2 _ hx (y0d hj);exact ⟨e1, b, base, m, e2, by rw [y0d hj, e3]⟩
 have hmi : ∀ (j j' : Nat) (x y : Nat × Nat), S.marks[j]? = some x -> S.marks[j']? = some y -> x.1 = y.1 -> j = j' := by
  intro j j' x y hx hy e;have hj := (y05.1 hx).1;exact (List.getElem?_inj (by rw [y06]; exact hj) h.marks.2.2).1 (by rw [y0n, y0n, hx, hy]; exact congrArg some e)
 let I' : LI := { loc := fun k st' => if st' = 0 then (match live[k]? with | some (some x, _) => I.loc x.1 x.2 | some (none, _) => some .void | none => (match S.marks[k - live.length]? with | some x => I.loc x.1 x.2 | none => none)) else none, clk := 1, ok := I.ok }
 have hloc : ∀ {k st : Nat} {lo : Loc}, I'.loc k st = some lo -> st = 0 /\ ((∃ x cs, live[k]? = some (some x, cs) /\ I.loc x.1 x.2 = some lo) \/ (∃ cs, live[k]? = some (none, cs) /\ lo = .void) \/ (∃ x, live.length <= k /\ S.marks[k - live.length]? = some x /\ I.loc x.1 x.2 = some lo)) := by
  intro k st lo hk;simp only [I'] at hk;split at hk
  ·rename_i e;cases hx : live[k]? with
   | none =>
    rw [hx] at hk;have hk : (match S.marks[k - live.length]? with | some x => I.loc x.1 x.2 | none => none) = some lo := hk;cases hy : S.marks[k - live.length]? with
    | none => rw [hy] at hk; cases hk
    | some y => rw [hy] at hk; exact ⟨e, .inr (.inr ⟨y, List.getElem?_eq_none_iff.1 hx, rfl, hk⟩)⟩
   | some x =>
    obtain ⟨o, cs⟩ := x;cases o with
    | none => rw [hx] at hk; simp only [y00] at hk; exact ⟨e, .inr (.inl ⟨cs, rfl, hk.symm⟩)⟩
    | some p => rw [hx] at hk; exact ⟨e, .inl ⟨p, cs, rfl, hk⟩⟩
  ·cases hk
 have hloc' : ∀ {k : Nat} {x : Nat × Nat} {cs : List AV}, live[k]? = some (some x, cs) -> I'.loc k 0 = I.loc x.1 x.2 := by
  intro k x cs hx;simp only [I', if_true, hx]
 have hlocv : ∀ {k : Nat} {cs : List AV}, live[k]? = some (none, cs) -> I'.loc k 0 = some .void := by
  intro k cs hx;simp only [I', if_true, hx]
 have hro : ∀ b, I.ro b -> I'.ro b := fun b hb => ⟨hb.1, fun k st base m e => by
  obtain ⟨_, h2 | h2 | h2⟩ := hloc e
  ·obtain ⟨x, cs, _, h2⟩ := h2; exact hb.2 _ _ _ _ h2
  ·obtain ⟨cs, _, h2⟩ := h2; cases h2
  ·obtain ⟨x, _, _, h2⟩ := h2; exact hb.2 _ _ _ _ h2⟩
 have hfro : ∀ {id st b base n : Nat} {cs : List AV}, fzl id st fz = some cs -> I.loc id st = some (.at b base n) -> I'.ro b := by
  intro id st b base n cs hz hb;have hmem := zmu hz;refine ⟨h.hrel.okN _ (h.hrel.fresh _ _ _ _ _ hb), fun k st' base' m e => ?_⟩;obtain ⟨_, h2 | h2 | h2⟩ := hloc e
  ·obtain ⟨x, cs', hx, h2⟩ := h2;have := h.hrel.inj _ _ _ _ _ _ _ _ _ hb h2;subst this;exact zhj hok k x.1 x.2 cs' hx (y0p.2 ⟨_, hmem, rfl⟩)
  ·obtain ⟨cs', _, h2⟩ := h2; cases h2
  ·obtain ⟨x, _, hx, h2⟩ := h2;have e1 := h.hrel.inj _ _ _ _ _ _ _ _ _ hb h2;have e2 := (hmk _ _ hx).1;have e3 : look id S.heap = some (st, .cells cs) := (hf _ hmem).1;rw [e1, e2] at e3;cases e3
 have hV : ∀ {v v' : AV}, RenW live fz v v' -> ∀ {u : Value}, VRel w I.ro (some I) v u -> VRel w I'.ro (some I') v' u := by
  intro v v' hr
  induction hr with
  | same hm => intro u hv; exact (zjc hv hm).mono (fun b i x hb hc => ⟨hro b hb, hc⟩) trivial
  | top => intro u _; exact .top
  | mptr hk =>
   intro u hv;cases hv with
   | mptr hp hx =>
    obtain ⟨J, hJ, c1, c2, c3⟩ := hx;injection hJ with hJ; subst hJ;refine .mptr hp ⟨_, rfl, Nat.one_pos, ?_, ?_⟩
    ·rw [hloc' hk]; exact c2
    ·rw [hloc' hk]; exact c3
  | ms hk =>
   intro u hv;cases hv with
   | ms a1 a2 a3 hx =>
    obtain ⟨J, hJ, c1, c2, c3⟩ := hx;injection hJ with hJ; subst hJ;refine .ms a1 a2 a3 ⟨_, rfl, Nat.one_pos, ?_, ?_⟩
    ·rw [hloc' hk]; exact c2
    ·rw [hloc' hk]; exact c3
  | grow hk =>
   intro u hv;cases hv with
   | nils =>
    refine .ms (y08 _) (fun h => absurd h (y21 _)) (fun k hk => by cases hk) ⟨_, rfl, Nat.one_pos, fun b base n e => ?_, fun _ => rfl⟩;rw [hlocv hk] at e; cases e
  | nilvs =>
   intro u hv;cases hv with
   | nils => exact .nilvs
  | @fptr id st off cs ds hz hd =>
   intro u hv;obtain ⟨hlk, hM⟩ := hf _ (zmu hz);subst hd;cases hv with
   | mptr hp hx =>
    obtain ⟨J, hJ, c1, c2, c3⟩ := hx;injection hJ with hJ; subst hJ;obtain ⟨_, lo, l1, l2⟩ := h.hrel.heap _ _ _ hlk;cases lo with
    | void => exact absurd l1 c2
    | «at» b base n =>
     have hu := c3 _ _ _ l1;subst hu;obtain ⟨c, elem, o1, o2, o3, o4⟩ := l2;have hb := hfro hz l1;refine .vptr (fun i => c.getD (base + (off + i)) undef) (fun i x hx => ?_) fun i x hx => ?_
     ·rw [y18] at hx;have hlt : off + i < cs.length := (y05.1 hx).1;have hlt2 : base + (off + i) < c.size := by simp only at o3; omega
      refine ⟨hb, ?_⟩;rw [show base + off + i = base + (off + i) from by omega]
      simp [World.cell?, o1, hlt2, y02]
     ·rw [y18] at hx;exact (zjc (o4 _ _ hx) (zbs hM _ _ hx)).mono (fun b i x hb hc => ⟨hro b hb, hc⟩) trivial
  | @fms id st sz off len cap cs xs hz hlen hs hfl =>
   intro u hv;obtain ⟨hlk, hM⟩ := hf _ (zmu hz);obtain ⟨ys, hfl⟩ := hfl;cases hv with
   | @ms _ _ _ _ _ _ _ p c hlc hp hcap hcl =>
    obtain ⟨J, hJ, c1, c2, c3⟩ := hcl;injection hJ with hJ; subst hJ;have zero : c = 0 -> VRel w I'.ro (some I') (.vs xs) (.slice p len c) := fun hc => by
     subst hc;obtain rfl : len = 0 := by omega
     obtain rfl := y0k.1 hlen;exact .nilvs
    obtain ⟨_, lo, l1, l2⟩ := h.hrel.heap _ _ _ hlk;cases lo with
    | void => exact zero (c3 l1)
    | «at» b base n =>
     rcases c2 b base n l1 with h00 | ⟨e1, _⟩
     ·exact zero h00
     ·subst e1;obtain ⟨cc, elem, o1, o2, o3, o4⟩ := l2;have hb := hfro hz l1;have hget : ∀ i j e x, xs[i]? = some e -> e[j]? = some x -> cs[off + (i * sz + j)]? = some x := by
       intro i j e x hi hj;have key : ∀ (xs : List (List AV)), (∀ x ∈ xs, x.length = sz) -> ∀ i, xs[i]? = some e -> (xs.flatten ++ ys)[i * sz + j]? = some x := by
        intro xs
        induction xs with
        | nil => intro _ i hi; simp at hi
        | cons y xs ih =>
         intro hs i hi;have hy : y.length = sz := hs y (y01 ..);cases i with
         | zero =>
          simp only [y1h, y00] at hi;subst hi;have hj' : j < y.length := (y05.1 hj).1;rw [y2n, y1b, y1c, y1w, y0z hj'];exact hj
         | succ i =>
          rw [y1c, y1w, y12 (by rw [hy, y23]; omega), show (i + 1) * sz + j - y.length = i * sz + j from by rw [hy, y23]; omega]
          exact ih (fun x hx => hs x (y0a _ hx)) i (by simpa using hi)
       have := key xs hs i hi;rw [<- hfl, y18] at this;exact this
      refine .vs (sz := sz) (b := b) (off := base + off) (fun i j => cc.getD (base + (off + (i * sz + j))) undef) hlen.symm hlc (fun _ => rfl) hs (fun i j e x hi hj => ?_) fun i j e x hi hj => ?_
      ·have hx := hget i j e x hi hj;have hlt : off + (i * sz + j) < cs.length := (y05.1 hx).1;have hlt2 : base + (off + (i * sz + j)) < cc.size := by simp only at o3; omega
       refine ⟨hb, ?_⟩;rw [show base + off + i * sz + j = base + (off + (i * sz + j)) from by omega]
       simp [World.cell?, o1, hlt2, y02]
      ·have hx := hget i j e x hi hj;exact (zjc (o4 _ _ hx) (zbs hM _ _ hx)).mono (fun b i x hb hc => ⟨hro b hb, hc⟩) trivial
  | agg hl _ ih =>
   intro u hv;cases hv with
   | agg a1 a2 =>
    refine .agg (by rw [a1, hl]) fun i y hy => ?_;have hi : i < _ := (y05.1 hy).1;have hx := y0d (hl ▸ hi);exact ih i _ y hx hy (a2 i _ hx)
  | fn hl hc _ _ ih1 ih2 =>
   intro u hv;cases hv with
   | fn a1 a2 a3 a4 =>
    refine .fn (by rw [a1, hl]) (by rw [a2, hc]) (fun i y hy => ?_) fun i y hy => ?_
    ·have hi : i < _ := (y05.1 hy).1;have hx := y0d (hl ▸ hi);exact ih1 i _ y hx hy (a3 i _ hx)
    ·have hi : i < _ := (y05.1 hy).1;have hx := y0d (hc ▸ hi);exact ih2 i _ y hx hy (a4 i _ hx)
 have hlk : ∀ k, look k (zl5 0 live ++ zpr live.length S.marks.length) = match live[k]? with
   | some x => some (0, .cells x.2)
   | none => if live.length <= k /\ k < live.length + S.marks.length then some (0, .deferred) else none := by
  intro k;rw [zka, zly, zlx];simp only [y0r, if_true, Nat.sub_zero];cases live[k]? <;> rfl
 have hlook : ∀ {k st : Nat} {o : AObj}, look k (zl5 0 live ++ zpr live.length S.marks.length) = some (st, o) -> st = 0 /\ ((∃ x, live[k]? = some x /\ o = .cells x.2) \/ (live[k]? = none /\ live.length <= k /\ k < live.length + S.marks.length /\ o = .deferred)) := by
  intro k st o e;rw [hlk] at e;cases hx : live[k]? with
  | some x =>
   rw [hx] at e;simp only [y00, y0b] at e;exact ⟨e.1.symm, .inl ⟨x, rfl, e.2.symm⟩⟩
  | none =>
   rw [hx] at e;simp only at e;split at e
   ·rename_i hh;simp only [y00, y0b] at e;exact ⟨e.1.symm, .inr ⟨rfl, hh.1, hh.2, e.2.symm⟩⟩
   ·cases e
 have hlocm : ∀ {k : Nat} {x : Nat × Nat}, live[k]? = none -> S.marks[k - live.length]? = some x -> I'.loc k 0 = I.loc x.1 x.2 := by
  intro k x hx hy;simp only [I', if_true, hx, hy]
 have hvoid : ∀ {live : zit} {zfp : List Nat}, okW zfp live = true -> ∀ {k : Nat} {cs : List AV}, live[k]? = some (none, cs) -> cs = [] := by
  intro live
  induction live with
  | nil => intro zfp _ k cs e; simp at e
  | cons y live ih =>
   intro zfp h k cs e;obtain ⟨o, c⟩ := y;cases o with
   | none =>
    simp only [okW, y0g] at h;cases k with
    | zero =>
     simp only [y1h, y00, y0b, true_and] at e;subst e;exact List.isEmpty_iff.1 h.1
    | succ k => exact ih h.2 (by simpa using e)
   | some p =>
    simp only [okW, y0g] at h;cases k with
    | zero => simp at e
    | succ k => exact ih h.2 (by simpa using e)
 refine ⟨I', ⟨rfl, ⟨h.tmps.1, fun d v hv => ?_⟩, ?_, ?_⟩, rfl⟩
 ·replace hv : zao d (zet l) = some v := hv;have : ∃ x ∈ l, x.1 = d /\ x.2 = v := by
   clear ht
   induction l with
   | nil => simp [zet, zdq] at hv
   | cons y l ih =>
    obtain ⟨k, u⟩ := y;simp only [zet, zcc] at hv;by_cases e : k = d
    ·rw [if_pos e] at hv; injection hv with hv; exact ⟨(k, u), y01 .., e, hv⟩
    ·rw [if_neg e] at hv;obtain ⟨x, hx, e2⟩ := ih hv;exact ⟨x, y0a _ hx, e2⟩
  obtain ⟨x, hx, rfl, rfl⟩ := this;obtain ⟨v, hv2, hr⟩ := ht x hx;exact hV hr (h.tmps.2 _ _ hv2)
 ·refine ⟨h.hrel.below, h.hrel.base, fun k st o e => ?_, fun k st lo e => ?_, fun k st b base m k' st' base' m' e1 e2 => ?_, fun k st b base m e => ?_, fun k hk => ?_, h.hrel.okN, h.hrel.glob.mono fun b i x hb hc => ⟨hro b hb, hc⟩⟩
  ·obtain ⟨rfl, ⟨x, hx, rfl⟩ | ⟨hx, hge, hlt, rfl⟩⟩ := hlook e
   rotate_left
   ·obtain ⟨y, hy⟩ : ∃ y, S.marks[k - live.length]? = some y := ⟨_, y0d (by omega)⟩
    obtain ⟨e1, b, base, m, e2, e3⟩ := hmk _ _ hy;refine ⟨Nat.one_pos, _, (hlocm hx hy).trans e2, ?_⟩;obtain ⟨_, lo, l1, l2⟩ := h.hrel.heap _ _ _ e1;rw [e2] at l1;injection l1 with l1;subst l1;exact l2
   obtain ⟨o, ds⟩ := x;cases o with
   | none =>
    refine ⟨Nat.one_pos, .void, hlocv hx, ?_⟩;exact hvoid hok hx
   | some p =>
   obtain ⟨cs, c1, c2, c3⟩ := hl _ (y0i hx) p.1 p.2 rfl;obtain ⟨_, lo, l1, l2⟩ := h.hrel.heap _ _ _ c1;refine ⟨Nat.one_pos, lo, by rw [hloc' hx]; exact l1, ?_⟩;cases lo with
   | void =>
    have : cs = [] := l2;subst this;exact y0k.1 c2
   | «at» b base m =>
    obtain ⟨c, elem, o1, o2, o3, o4⟩ := l2;refine ⟨c, elem, o1, o2, by omega, fun i y hy => ?_⟩;have hi : i < cs.length := by have := (y05.1 hy).1; omega
    exact hV (c3 i _ y (y0d hi) hy) (o4 i _ (y0d hi))
  ·obtain ⟨rfl, hh⟩ := hloc e;rcases hh with ⟨x, cs, hx, _⟩ | ⟨cs, hx, _⟩ | ⟨x, hx, hy, _⟩
   ·exact ⟨.cells cs, by rw [hlk, hx]⟩
   ·exact ⟨.cells cs, by rw [hlk, hx]⟩
   ·have := (y05.1 hy).1;exact ⟨.deferred, by rw [hlk, List.getElem?_eq_none hx]; exact if_pos ⟨hx, by omega⟩⟩
  ·obtain ⟨rfl, g1⟩ := hloc e1;obtain ⟨rfl, g2⟩ := hloc e2;have cross : ∀ {k k' : Nat} {x y : Nat × Nat} {cs : List AV} {b base base' m m' : Nat}, live[k]? = some (some x, cs) -> I.loc x.1 x.2 = some (.at b base m) -> S.marks[k']? = some y -> I.loc y.1 y.2 = some (.at b base' m') -> False := by
    intro k k' x y cs b base base' m m' hx g1 hy g2;have e := h.hrel.inj _ _ _ _ _ _ _ _ _ g1 g2;obtain ⟨cs', c1, _⟩ := hl _ (y0i hx) x.1 x.2 rfl;rw [e, (hmk _ _ hy).1] at c1;simp at c1
   rcases g1 with ⟨x, cs, hx, g1⟩ | ⟨cs, hx, g1⟩ | ⟨x, hk, hx, g1⟩
   ·rcases g2 with ⟨y, cs', hy, g2⟩ | ⟨cs', hy, g2⟩ | ⟨y, hk', hy, g2⟩
    ·have := h.hrel.inj _ _ _ _ _ _ _ _ _ g1 g2;obtain ⟨x1, x2⟩ := x;obtain ⟨y1, y2⟩ := y;simp only at this;subst this;exact zwf hok _ _ _ _ _ _ _ hx hy
    ·cases g2
    ·exact (cross hx g1 hy g2).elim
   ·cases g1
   ·rcases g2 with ⟨y, cs', hy, g2⟩ | ⟨cs', hy, g2⟩ | ⟨y, hk', hy, g2⟩
    ·exact (cross hy g2 hx g1).elim
    ·cases g2
    ·have := hmi _ _ _ _ hx hy (h.hrel.inj _ _ _ _ _ _ _ _ _ g1 g2);omega
  ·obtain ⟨_, g1 | g1 | g1⟩ := hloc e
   ·obtain ⟨x, cs, _, g1⟩ := g1; exact h.hrel.fresh _ _ _ _ _ g1
   ·obtain ⟨cs, _, g1⟩ := g1; cases g1
   ·obtain ⟨x, _, _, g1⟩ := g1; exact h.hrel.fresh _ _ _ _ _ g1
  ·have hk : S.marks.length + live.length <= k := hk;rw [hlk, List.getElem?_eq_none (by omega)];exact if_neg (by omega)
 ·refine ⟨by rw [h.marks.1, zkg], fun i id st d e hd => ?_, zlz ..⟩;rw [zn8] at e;by_cases hi : i < S.marks.length
  ·rw [if_pos hi] at e;simp only [y00, y0b] at e;obtain ⟨rfl, rfl⟩ := e;have hn : live[live.length + i]? = none := List.getElem?_eq_none (by omega);obtain ⟨y, hy⟩ : ∃ y, S.marks[i]? = some y := ⟨_, y0d hi⟩
   obtain ⟨e1, b, base, m, e2, e3⟩ := hmk _ _ hy;refine ⟨by rw [hlk, hn]; exact if_pos ⟨Nat.le_add_right .., by omega⟩, b, base, m, ?_, ?_⟩
   ·rw [hlocm (x := y) hn (by rw [Nat.add_sub_cancel_left]; exact hy)]; exact e2
   ·have hd : a.defers[i]? = some d := hd;rw [e3] at hd;exact (y2p hd).symm
  ·rw [if_neg hi] at e; cases e
end
inductive RnA (live : zit) (fz : List (Nat × Nat × List AV)) (l : List (Nat × AV)) : List (Nat × AV) -> Prop
 | nil : RnA live fz l []
 | cons {d : Nat} {v v' : AV} {l' : List (Nat × AV)} (h : zah d l = some v) (r : RenW live fz v v') (k : RnA live fz l l') : RnA live fz l ((d, v') :: l')
inductive RnC (live : zit) (fz : List (Nat × Nat × List AV)) : List AV -> List AV -> Prop
 | nil : RnC live fz [] []
 | cons {u v : AV} {us vs : List AV} (r : RenW live fz u v) (k : RnC live fz us vs) : RnC live fz (u :: us) (v :: vs)
 | keep {us : List AV} (h : hasM.hasML us = false) : RnC live fz us us
theorem RnC.length {live : zit} {fz : List (Nat × Nat × List AV)} {us vs : List AV} (h : RnC live fz us vs) : vs.length = us.length := by
 induction h with
 | nil => rfl
 | cons _ _ ih => simp [ih]
 | keep => rfl
theorem RnC.get {live : zit} {fz : List (Nat × Nat × List AV)} {us vs : List AV} (h : RnC live fz us vs) : ∀ (i : Nat) (u v : AV), us[i]? = some u -> vs[i]? = some v -> RenW live fz u v := by
 induction h with
 | nil => intro i u v e; simp at e
 | cons r _ ih =>
  intro i u v e1 e2;cases i with
  | zero =>
   simp only [y1h, y00] at e1 e2;subst e1 e2;exact r
  | succ i => exact ih i u v (by simpa using e1) (by simpa using e2)
 | keep h =>
  intro i u v e1 e2;rw [e1] at e2;injection e2 with e2;subst e2;exact .same (zbs h i u e1)
theorem RnC.snoc {live : zit} {fz : List (Nat × Nat × List AV)} {us : List AV} {u v : AV} (h : hasM.hasML us = false) (r : RenW live fz u v) : RnC live fz (us ++ [u]) (us ++ [v]) := by
 induction us with
 | nil => exact .cons r .nil
 | cons x us ih =>
  simp only [hasM.hasML, y1x] at h;exact .cons (.same h.1) (ih h.2)
theorem RenW.fms1 {live : zit} {fz : List (Nat × Nat × List AV)} {id sp len : Nat} {cap : Option Nat} {vs : List AV} (h : fzl id sp fz = some vs) (hl : vs.length = len) : RenW live fz (.ms id sp 1 0 len cap) (.vs (vs.map fun v => [v])) :=
 .fms h (by rw [y06]; exact hl) (fun x hx => by obtain ⟨v, _, rfl⟩ := y0p.1 hx; rfl) ⟨[], by
  rw [y26, y0s];clear h hl
  induction vs with
  | nil => rfl
  | cons v vs ih => simpa using ih⟩
inductive RnH (live : zit) (fz : List (Nat × Nat × List AV)) (hp : List (Nat × Nat × AObj)) : zit -> Prop
 | nil : RnH live fz hp []
 | new {l : zit} (k : RnH live fz hp l) : RnH live fz hp ((none, []) :: l)
 | cons {id sp : Nat} {cs cs' : List AV} {l : zit} (h : look id hp = some (sp, .cells cs)) (r : RnC live fz cs cs') (k : RnH live fz hp l) : RnH live fz hp ((some (id, sp), cs') :: l)
inductive RnF (hp : List (Nat × Nat × AObj)) : List (Nat × Nat × List AV) -> Prop
 | nil : RnF hp []
 | cons {id sp : Nat} {cs : List AV} {l : List (Nat × Nat × List AV)} (h : look id hp = some (sp, .cells cs)) (m : hasM.hasML cs = false) (k : RnF hp l) : RnF hp ((id, sp, cs) :: l)
section
variable {w0 : World} {N0 n nx nx' ck : Nat} {l l' : List (Nat × AV)} {hp hp' : List (Nat × Nat × AObj)}
theorem zx5 {mk : List (Nat × Nat)} (live : zit) (fz : List (Nat × Nat × List AV)) (hh : hp' = zl5 0 live ++ zpr live.length mk.length) (hx : nx' = mk.length + live.length) (hok : okW (fz.map (·.1)) live = true) (hf : RnF hp fz) (h1 : RnH live fz hp live) (h2 : RnA live fz l l') : Sub0 w0 N0 (st n l hp nx ck mk) (st n l' hp' nx' 1 (zt3 live.length mk.length)) := by
 refine Sub0.renw live fz rfl hh hx hok ?_ ?_ ?_
 ·have : ∀ {m : zit}, RnH live fz hp m -> ∀ x ∈ m, ∀ i s, x.1 = some (i, s) -> ∃ cs, look i hp = some (s, .cells cs) /\ x.2.length = cs.length /\ ∀ (i : Nat) (u v : AV), cs[i]? = some u -> x.2[i]? = some v -> RenW live fz u v := by
   intro m hm
   induction hm with
   | nil => intro x hx; cases hx
   | new _ ih =>
    intro x hx i s e;rcases y0f.1 hx with rfl | hx
    ·cases e
    ·exact ih x hx i s e
   | cons h r _ ih =>
    intro x hx i s e;rcases y0f.1 hx with rfl | hx
    ·injection e with e;injection e with e1 e2;subst e1 e2;exact ⟨_, h, r.length, r.get⟩
    ·exact ih x hx i s e
  exact this h1
 ·have : ∀ {m : List (Nat × Nat × List AV)}, RnF hp m -> ∀ x ∈ m, look x.1 hp = some (x.2.1, .cells x.2.2) /\ hasM.hasML x.2.2 = false := by
   intro m hm
   induction hm with
   | nil => intro x hx; cases hx
   | cons h m _ ih =>
    intro x hx;rcases y0f.1 hx with rfl | hx
    ·exact ⟨h, m⟩
    ·exact ih x hx
  exact this hf
 ·have : ∀ {m : List (Nat × AV)}, RnA live fz l m -> ∀ x ∈ m, ∃ v, zah x.1 l = some v /\ RenW live fz v x.2 := by
   intro m hm
   induction hm with
   | nil => intro x hx; cases hx
   | cons h r _ ih =>
    intro x hx;rcases y0f.1 hx with rfl | hx
    ·exact ⟨_, h, r⟩
    ·exact ih x hx
  intro x hx;obtain ⟨v, e1, e2⟩ := this h2 x hx;exact ⟨v, (zd4 x.1 l).trans e1, e2⟩
theorem zsb (live : zit) (fz : List (Nat × Nat × List AV)) (hh : hp' = zl5 0 live) (hx : nx' = live.length) (hok : okW (fz.map (·.1)) live = true) (hf : RnF hp fz) (h1 : RnH live fz hp live) (h2 : RnA live fz l l') : Sub0 w0 N0 (st n l hp nx ck) (st n l' hp' nx' 1) :=
 zx5 (mk := []) live fz (by rw [hh]; exact (y0s _).symm) (by rw [hx]; exact (y1b _).symm) hok hf h1 h2
end
inductive RenF (id sp : Nat) (cs : List AV) : AV -> AV -> Prop
 | same {v} : RenF id sp cs v v
 | fptr {off ds} (hd : cs.drop off = ds) : RenF id sp cs (.mptr id sp off) (.vptr ds)
 | fms {sz off len cap xs} (hl : xs.length = len) (hs : ∀ x ∈ xs, x.length = sz) (hf : ∃ ys, cs.drop off = xs.flatten ++ ys) : RenF id sp cs (.ms id sp sz off len cap) (.vs xs)
inductive RnT (id sp : Nat) (cs : List AV) (l : List (Nat × AV)) : List (Nat × AV) -> Prop
 | nil : RnT id sp cs l []
 | cons {d : Nat} {v v' : AV} {l' : List (Nat × AV)} (h : zah d l = some v) (r : RenF id sp cs v v') (k : RnT id sp cs l l') : RnT id sp cs l ((d, v') :: l')
theorem tmOf_get {l : List (Nat × AV)} {d : Nat} {v : AV} (hv : zao d (zet l) = some v) : ∃ x ∈ l, x.1 = d /\ x.2 = v := by
 induction l with
 | nil => simp [zet, zdq] at hv
 | cons y l ih =>
  obtain ⟨k, u⟩ := y;simp only [zet, zcc] at hv;by_cases e : k = d
  ·rw [if_pos e] at hv; injection hv with hv; exact ⟨(k, u), y01 .., e, hv⟩
  ·rw [if_neg e] at hv;obtain ⟨x, hx, e2⟩ := ih hv;exact ⟨x, y0a _ hx, e2⟩
section
variable {w0 : World} {N0 n nx ck : Nat} {l l' : List (Nat × AV)} {hp : List (Nat × Nat × AObj)} {mk : List (Nat × Nat)}
theorem ztf {id sp : Nat} {cs : List AV} (hk : look id hp = some (sp, .cells cs)) (hM : hasM.hasML cs = false) (h2 : RnT id sp cs l l') : Sub w0 N0 (st n l hp nx ck mk) (st n l' (zbx id hp) nx ck mk) := by
 intro I a w h
 let I' : LI := { loc := fun k s => if k = id then none else I.loc k s, clk := I.clk, ok := I.ok }
 have hne : ∀ {k s : Nat} {lo : Loc}, I'.loc k s = some lo -> k ≠ id /\ I.loc k s = some lo := by
  intro k s lo e;simp only [I'] at e;split at e
  ·cases e
  ·rename_i hn; exact ⟨hn, e⟩
 have hro : ∀ b, I.ro b -> I'.ro b := fun b hb => ⟨hb.1, fun k s base m e => hb.2 _ _ _ _ (hne e).2⟩
 have hev : Evo I w I' w := ⟨y08 _, fun k s lo _ e => (hne e).2, fun b i x hb hc => ⟨hro b hb, hc⟩, rfl⟩
 have hfro : ∀ {b base m : Nat}, I.loc id sp = some (.at b base m) -> I'.ro b := by
  intro b base m hb;refine ⟨h.hrel.okN _ (h.hrel.fresh _ _ _ _ _ hb), fun k s base' m' e => ?_⟩;obtain ⟨e1, e2⟩ := hne e;exact e1 (h.hrel.inj _ _ _ _ _ _ _ _ _ e2 hb)
 obtain ⟨_, lo, l1, l2⟩ := h.hrel.heap _ _ _ hk;have hcell : ∀ {b base m : Nat}, lo = .at b base m -> ∀ (i : Nat) (x : AV), cs[i]? = some x -> ∃ u, w.cell? ⟨b, base + i, none⟩ = some u /\ VRel w I'.ro none x u := by
  intro b base m e i x hx;subst e;obtain ⟨c, elem, o1, o2, o3, o4⟩ := l2;have hlt : i < cs.length := (y05.1 hx).1;have hlt2 : base + i < c.size := by omega
  exact ⟨c.getD (base + i) undef, by simp [World.cell?, o1, hlt2, y02], (zjc (o4 _ _ hx) (zbs hM _ _ hx)).mono (fun b i x hb hc => ⟨hro b hb, hc⟩) trivial⟩
 have hV : ∀ {v v' : AV}, RenF id sp cs v v' -> ∀ {u : Value}, VRel w I.ro (some I) v u -> VRel w I'.ro (some I') v' u := by
  intro v v' hr u hv;cases hr with
  | same => exact hv.evo hev
  | @fptr off ds hd =>
   subst hd;cases hv with
   | mptr hp hx =>
    obtain ⟨J, hJ, c1, c2, c3⟩ := hx;injection hJ with hJ; subst hJ;cases lo with
    | void => exact absurd l1 c2
    | «at» b base m =>
     have hu := c3 _ _ _ l1;subst hu;have hb := hfro l1;refine .vptr (fun i => (w.cell? ⟨b, base + (off + i), none⟩).getD undef) (fun i x hx => ?_) fun i x hx => ?_
     ·rw [y18] at hx;obtain ⟨u, g1, g2⟩ := hcell rfl _ _ hx;exact ⟨hb, by rw [g1, show base + off + i = base + (off + i) from by omega, g1]; rfl⟩
     ·rw [y18] at hx;obtain ⟨u, g1, g2⟩ := hcell rfl _ _ hx;rw [g1]; exact g2
  | @fms sz off len cap xs hlen hs hfl =>
   obtain ⟨ys, hfl⟩ := hfl;cases hv with
   | @ms _ _ _ _ _ _ _ p c hlc hp hcap hcl =>
    obtain ⟨J, hJ, c1, c2, c3⟩ := hcl;injection hJ with hJ; subst hJ;have zero : c = 0 -> VRel w I'.ro (some I') (.vs xs) (.slice p len c) := fun hc => by
     subst hc;obtain rfl : len = 0 := by omega
     obtain rfl := y0k.1 hlen;exact .nilvs
    cases lo with
    | void => exact zero (c3 l1)
    | «at» b base m =>
     rcases c2 b base m l1 with h00 | ⟨e1, _⟩
     ·exact zero h00
     ·subst e1;have hb := hfro l1;have hget : ∀ i j e x, xs[i]? = some e -> e[j]? = some x -> cs[off + (i * sz + j)]? = some x := by
       intro i j e x hi hj;have key : ∀ (xs : List (List AV)), (∀ x ∈ xs, x.length = sz) -> ∀ i, xs[i]? = some e -> (xs.flatten ++ ys)[i * sz + j]? = some x := by
        intro xs
        induction xs with
        | nil => intro _ i hi; simp at hi
        | cons y xs ih =>
         intro hs i hi;have hy : y.length = sz := hs y (y01 ..);cases i with
         | zero =>
          simp only [y1h, y00] at hi;subst hi;have hj' : j < y.length := (y05.1 hj).1;rw [y2n, y1b, y1c, y1w, y0z hj'];exact hj
         | succ i =>
          rw [y1c, y1w, y12 (by rw [hy, y23]; omega), show (i + 1) * sz + j - y.length = i * sz + j from by rw [hy, y23]; omega]
          exact ih (fun x hx => hs x (y0a _ hx)) i (by simpa using hi)
       have := key xs hs i hi;rw [<- hfl, y18] at this;exact this
      refine .vs (sz := sz) (b := b) (off := base + off) (fun i j => (w.cell? ⟨b, base + (off + (i * sz + j)), none⟩).getD undef) hlen.symm hlc (fun _ => rfl) hs (fun i j e x hi hj => ?_) fun i j e x hi hj => ?_
      ·obtain ⟨u, g1, g2⟩ := hcell rfl _ _ (hget i j e x hi hj);exact ⟨hb, by rw [g1, show base + off + i * sz + j = base + (off + (i * sz + j)) from by omega, g1]; rfl⟩
      ·obtain ⟨u, g1, g2⟩ := hcell rfl _ _ (hget i j e x hi hj);rw [g1]; exact g2
 have hlook : ∀ k, look k (zbx id hp) = if id = k then none else look k hp := fun k => zac k id hp
 refine ⟨I', ⟨h.clk, ⟨h.tmps.1, fun d v hv => ?_⟩, ?_, ?_⟩, hev⟩
 ·obtain ⟨x, hx, rfl, rfl⟩ := tmOf_get hv;have : ∀ {m : List (Nat × AV)}, RnT id sp cs l m -> ∀ x ∈ m, ∃ v, zah x.1 l = some v /\ RenF id sp cs v x.2 := by
   intro m hm
   induction hm with
   | nil => intro x hx; cases hx
   | cons h r _ ih =>
    intro x hx;rcases y0f.1 hx with rfl | hx
    ·exact ⟨_, h, r⟩
    ·exact ih x hx
  obtain ⟨v, e1, e2⟩ := this h2 x hx;exact hV e2 (h.tmps.2 _ _ ((zd4 x.1 l).trans e1))
 ·refine ⟨h.hrel.below, h.hrel.base, fun k s o e => ?_, fun k s lo e => ?_, fun k s b base m k' s' base' m' e1 e2 => ?_, fun k s b base m e => ?_, fun k hk' => ?_, h.hrel.okN, h.hrel.glob.mono fun b i x hb hc => ⟨hro b hb, hc⟩⟩
  ·replace e : look k (zbx id hp) = some (s, o) := e;rw [hlook] at e;split at e
   ·cases e
   ·rename_i hn;obtain ⟨c1, lo', c2, c3⟩ := h.hrel.heap k s o e;refine ⟨c1, lo', ?_, c3.evo hev fun _ _ _ _ => rfl⟩;simp only [I'];rw [if_neg fun e => hn e.symm];exact c2
  ·obtain ⟨e1, e2⟩ := hne e;obtain ⟨o, ho⟩ := h.hrel.locs _ _ _ e2;refine ⟨o, ?_⟩;show look k (zbx id hp) = _;rw [hlook, if_neg fun e => e1 e.symm];exact ho
  ·exact h.hrel.inj _ _ _ _ _ _ _ _ _ (hne e1).2 (hne e2).2
  ·exact h.hrel.fresh _ _ _ _ _ (hne e).2
  ·show look k (zbx id hp) = none;rw [hlook];split
   ·rfl
   ·exact h.hrel.free k hk'
 ·obtain ⟨d1, d2, d3⟩ := h.marks;refine ⟨d1, fun i k s d e1 e2 => ?_, d3⟩;obtain ⟨g1, b, base, m, g2, g3⟩ := d2 i k s d e1 e2;have hn : k ≠ id := fun e => by
   subst e;have g1 : look k hp = some (s, .deferred) := g1;rw [hk] at g1;injection g1 with g1;injection g1 with _ g1;cases g1
  refine ⟨?_, b, base, m, ?_, g3⟩
  ·show look k (zbx id hp) = _;rw [hlook, if_neg fun e => hn e.symm]; exact g1
  ·simp only [I'];rw [if_neg hn]; exact g2
end
section
variable {P : Program} {w0 : World} {N0 : Nat} {k : List Fr} {Q : Exit -> AS -> Prop} {pf : Kn} {ios : List Opr} {n nx ck : Nat} {mk : List (Nat × Nat)} {md : Md} {l : List (Nat × AV)} {hp : List (Nat × Nat × AObj)}
theorem zc3 {ic : IC} (live : zit) (fz : List (Nat × Nat × List AV)) (l' : List (Nat × AV)) (hok : okW (fz.map (·.1)) live = true) (hf : RnF hp fz) (h1 : RnH live fz hp live) (h2 : RnA live fz l l') (h : Zm P w0 N0 none ic (st n l' (zl5 0 live) live.length 1) k Q) : Zm P w0 N0 none ic (st n l hp nx ck) k Q :=
 zpe (md := none) (zsb live fz rfl rfl hok hf h1 h2) h
theorem znr {ic : IC} {l' : List (Nat × AV)} (id sp : Nat) {cs : List AV} (hk : look id hp = some (sp, .cells cs)) (hM : hasM.hasML cs = false) (h2 : RnT id sp cs l l') (h : Zm P w0 N0 md ic (st n l' (zbx id hp) nx ck mk) k Q) : Zm P w0 N0 md ic (st n l hp nx ck mk) k Q :=
 zpe (.of_sub (ztf hk hM h2)) h
theorem zp7 {off : Nat} {cs : List AV} {v : AV} (h : off < cs.length) : setAt off cs [v] = cs.set off v := by
 rw [List.set_eq_take_append_cons_drop, if_pos h];simp [setAt]
theorem zgc {id sp off : Nat} {p x : Arg} {v : AV} {cs : List AV} (h : zar p l = some (.mptr id sp off)) (hv : zar x l = some v) (hc : v.cells? = some [v]) (hlk : look id hp = some (sp, .cells cs)) (hlt : off < cs.length) (ha : v.isCell = true) (go : Om P w0 N0 md pf ios (st n l (zap id (sp, .cells (cs.set off v)) hp) nx ck mk) k Q) (hx : Ops pf (st n l hp nx ck mk) (.store 1 p x) := by first | exact fun _ _ _ _ => rfl | exact sdOk rfl rfl) :
  Om P w0 N0 md pf (⟨none, (.store 1 p x), none⟩ :: ios) (st n l hp nx ck mk) k Q :=
 zaj h hv hc rfl hlk (Nat.ble_eq.symm.mp hlt) (by simp [ha]) (by rw [zp7 hlt]; exact go) hx
end
section
variable {P : Program} {w0 w : World} {N0 : Nat} {I : LI} {S : AS} {a : Act} {rd : Option (Nat × Nat)}
theorem Stp_of {d : Option Nat} {op : IOp} {g : Option (Nat × Bool)} {Fk : AS -> AV -> Prop} (hb : op ≠ .bad)
  (h : ∀ I a w (o : Oper), Rel w0 N0 I S a w -> zbw P o.op = some op -> ∃ S1 v, Fk S1 v /\ Fin w0 N0 I a w ((execOp a.eval o).run P w) v S1) : Stp P w0 N0 rd ⟨d, op, g⟩ S Fk := fun ops o hc n I a w r next Qc hR ho hk => by
 refine ⟨fun _ _ => trivial, ?_⟩;show o.uponIn (Wd r) n P a next Qc ((o.semAt r a.eval).run P w);have hcop := zr5 hc hb;rw [Oper.semAt_eq r a.eval o (zhg hcop)];obtain ⟨S1, v, hF, u, w', I', e, hv, hR', hE⟩ := h I a w o hR hcop;rcases e with e | ⟨e, hu⟩
 ·rw [e]; exact hk I' S1 v u w' hF hR' hv hE
 ·rw [e]; subst hu; exact hk I' S1 v undef w' hF hR' hv hE
theorem inv_nilq {o : Op} {neg : Bool} {ax : Arg} (hc : zbw P o = some (.nilq neg ax)) : ∃ t t2 e x, o = .binOp (if neg then .neq else .eql) t x (.const (.slice none 0 0)) t2 /\ P.underlying t = some (.slice e) /\ za1 x = some ax := by
 unfold zbw at hc;repeat' (split at hc)
 all_goals first
  | (simp only [reduceCtorEq] at hc; done)
  | (simp only [y03, reduceCtorEq, and_false, exists_false] at hc; done)
  | (simp only [y00, reduceCtorEq] at hc; done)
  | (simp at hc; done)
  | skip
 all_goals
  simp only [y00, IOp.nilq.injEq] at hc;obtain ⟨rfl, rfl⟩ := hc;exact ⟨_, _, _, _, rfl, by assumption, by assumption⟩
theorem zs8 (w : World) (d : Nat) (t e : TypeId) (n c : Nat) (h : P.underlying t = some (.slice e)) : (Op.equalIn (d + 1) t (.slice none n c) (.slice none 0 0)).run P w = .ok true w := by
 simp [Op.equalIn, run_underlying h]
theorem s_nilqn (t e : TypeId) (n c : Nat) (h : P.underlying t = some (.slice e)) :
  (Go.binOp .eql t (.slice none n c) (.slice none 0 0)).run P w = .ok (.bool true) w /\ (Go.binOp .neq t (.slice none n c) (.slice none 0 0)).run P w = .ok (.bool false) w := by
 constructor
 ·simp only [Go.binOp];simp [Op.equal, Op.maxDepth, zs8 w 9999 t e n c h]
 ·simp only [Go.binOp];simp [Op.equal, Op.maxDepth, zs8 w 9999 t e n c h]
theorem Stp_nilq {d : Option Nat} {g : Option (Nat × Bool)} {neg : Bool} {ax : Arg} {es : List (List AV)} (hx : S.arg ax = some (.vs es)) : Stp P w0 N0 rd ⟨d, .nilq neg ax, g⟩ S fun S1 v => S1 = S /\ ∃ b, v = .bool b := by
 refine Stp_of (fun e => by cases e) fun I a w o hR hcop => ?_;obtain ⟨t, t2, e, x, ho, hu, kx⟩ := inv_nilq hcop;have hX := hR.arg kx hx;generalize he : a.eval x = xu at hX;cases hX with
 | @vs _ _ p len c sz b off us hl hcap ha hsz hc hv =>
  cases p with
  | none =>
   refine ⟨S, .bool (!neg), ⟨rfl, _, rfl⟩, Fin.same hR (u := .bool !neg) ?_ .bool⟩;obtain ⟨k1, k2⟩ := s_nilqn (P := P) (w := w) t e len c hu;cases neg
   ·simp [execOp, ho, he, show a.eval (.const (.slice none 0 0)) = .slice none 0 0 from rfl, zam (P := P), k1]
   ·simp [execOp, ho, he, show a.eval (.const (.slice none 0 0)) = .slice none 0 0 from rfl, zam (P := P), k2]
  | some q =>
   obtain ⟨k1, k2⟩ := zwu (P := P) (w := w) t e q len c hu;refine ⟨S, .bool neg, ⟨rfl, _, rfl⟩, Fin.same hR (u := .bool neg) ?_ .bool⟩;cases neg
   ·simp [execOp, ho, he, show a.eval (.const (.slice none 0 0)) = .slice none 0 0 from rfl, zam (P := P), k1]
   ·simp [execOp, ho, he, show a.eval (.const (.slice none 0 0)) = .slice none 0 0 from rfl, zam (P := P), k2]
end
section
variable {P : Program} {w0 : World} {N0 : Nat} {k : List Fr} {Q : Exit -> AS -> Prop} {ios : List Opr} {n nx ck : Nat} {mk : List (Nat × Nat)} {md : Md} {l : List (Nat × AV)} {hp : List (Nat × Nat × AObj)}
theorem o_ext {d : Option Nat} {op : IOp} (Fk : AS -> AV -> Prop) (hs : ∀ rd g, Stp P w0 N0 rd ⟨d, op, g⟩ (st n l hp nx ck mk) Fk) (hd : ∀ S1 v, Fk S1 v -> S1.size = n) (go : ∀ S1 v, Fk S1 v -> Om P w0 N0 md (KnP P w0 N0) ios (S1.put d v) k Q) : Om P w0 N0 md (KnP P w0 N0) (⟨d, op, none⟩ :: ios) (st n l hp nx ck mk) k Q :=
 ⟨fun ha => .ext rfl hs (fun S1 v hF => by
  have h1 : zc6 (st n l hp nx ck mk).size d = true := (all_cons ha).1;rw [hd S1 v hF];exact h1) fun S1 v hF => (go S1 v hF).ok (by
  have h2 := (all_cons ha).2;have e : (S1.put d v).size = n := by cases d <;> exact hd S1 v hF
  rw [e];exact h2)⟩
theorem o_nilq {d : Nat} {neg : Bool} {ax : Arg} {es : List (List AV)} (hx : zar ax l = some (.vs es)) (go : ∀ b, Om P w0 N0 md (KnP P w0 N0) ios (st n ((d, .bool b) :: l) hp nx ck mk) k Q) :
  Om P w0 N0 md (KnP P w0 N0) (⟨some d, .nilq neg ax, none⟩ :: ios) (st n l hp nx ck mk) k Q := by
 refine o_ext _ (fun rd g => Stp_nilq ((zag ax).trans hx)) (fun S1 v hF => by rw [hF.1]; rfl) fun S1 v hF => ?_;obtain ⟨rfl, b, rfl⟩ := hF;exact go b
end
section
variable {P : Program} {w0 : World} {N0 : Nat} {S S' : AS} {K : AS -> Prop} {k : List Fr} {Q : Exit -> AS -> Prop} {ios : List Opr} {n nx ck nx' ck' : Nat} {mk : List (Nat × Nat)} {md : Md} {l l' : List (Nat × AV)} {hp hp' : List (Nat × Nat × AObj)}
theorem RenF.fms1 {id sp : Nat} {len : Nat} {cap : Option Nat} {vs : List AV} (h : vs.length = len) : RenF id sp vs (.ms id sp 1 0 len cap) (.vs (vs.map fun v => [v])) :=
 .fms (by rw [y06]; exact h) (fun x hx => by obtain ⟨v, _, rfl⟩ := y0p.1 hx; rfl) ⟨[], by
  rw [y26, y0s];clear h
  induction vs with
  | nil => rfl
  | cons v vs ih => simpa using ih⟩
theorem zei {pf : Kn} {d sz bytes : Nat} {z : List AV} {s x : Arg} {xv : AV} (es : List (List AV)) {id sp : Nat} (hs : zar s l = some (.ms id sp sz 0 0 (some 0))) (hx : zar x l = some xv) (he : (st n l hp nx ck mk).elems sz xv = some es) (hne : es.length ≠ 0) (hc : es.flatten.all AV.isCell = true) (hb : bytes <= 16777216) (hlk : look id hp = some (sp, .cells []))
  (h2 : es.length <= 1048576) (go : Om P w0 N0 md pf ios (st n ((d, .ms nx ck sz 0 es.length none) :: l) ((nx, ck, .cells es.flatten) :: hp) (nx + 1) (ck + 1) mk) k Q)
  (hxo : Ops pf (st n l hp nx ck mk) (.append sz bytes z s x) := by first | exact fun _ _ _ _ _ _ _ => rfl | exact apOk rfl rfl | exact zw8 rfl) :
  Om P w0 N0 md pf (⟨some d, .append sz bytes z s x, none⟩ :: ios) (st n l hp nx ck mk) k Q := by
 have hi : iop (st n l hp nx ck mk) (.append sz bytes z s x) = some (.ms nx ck sz 0 es.length none, st n l ((nx, ck, .cells es.flatten) :: hp) (nx + 1) (ck + 1) mk) := by
  simp only [iop, zag, hs, hx, he];unfold zbv;rw [if_neg hne, if_pos ⟨hc, hb⟩];simp only [show (st n l hp nx ck mk).heap = hp from rfl, hlk]
  rw [if_pos ⟨trivial, trivial, by simp, by omega⟩, if_neg (by omega)];simp only [y1b, y2n, List.take_zero, y1y];rfl
 exact zdf hi go hxo
theorem zf5 {sz : Nat} {id sp len : Nat} {cap : Option Nat} {xs : List (List AV)} {ys : List AV} (h : look id hp = some (sp, .cells (xs.flatten ++ ys))) (hl : xs.length = len) (hs : ∀ x ∈ xs, x.length = sz) : (st n l hp nx ck mk).elems sz (.ms id sp sz 0 len cap) = some xs := by
 subst hl;have hf := zjw hs;simp only [AS.elems, show (st n l hp nx ck mk).heap = hp from rfl, h]
 rw [if_pos ⟨trivial, trivial, by rw [y0l, hf]; omega⟩, y26];congr 1;have : ∀ (xs : List (List AV)), (∀ x ∈ xs, x.length = sz) -> zdg sz xs.length (xs.flatten ++ ys) = xs := by
  intro xs
  induction xs with
  | nil => intro _; rfl
  | cons x xs ih =>
   intro hs;have hx := hs x (y01 ..);simp only [y19, zdg, y1c, y1w];rw [List.take_append_of_le_length (by omega), <- hx, y1t, List.drop_left, hx, ih fun y hy => hs y (y0a _ hy)]
 exact this xs hs
theorem zcu {sz : Nat} {xs : List (List AV)} (hs : ∀ x ∈ xs, x.length = sz) : (st n l hp nx ck mk).elems sz (.vs xs) = some xs := by
 simp only [AS.elems];rw [if_pos (y0h.2 fun x hx => by rw [hs x hx]; exact beq_self_eq_true _)]
end
section
variable {P : Program} {w0 : World} {N0 : Nat} {S : AS} {K : AS -> Prop} {E : Env} {fz : Fz} {la : Bool}
end
section
variable {P : Program} {w0 : World} {N0 : Nat} {S : AS} {k : List Fr} {Q : Exit -> AS -> Prop} {ios : List Opr} {n nx ck : Nat} {mk : List (Nat × Nat)} {md : Md} {l : List (Nat × AV)} {hp : List (Nat × Nat × AObj)} {fz : Fz} {la : Bool} {lk : FuncId -> List AV -> Option AV}
end
structure OwnR (S : AS) (v0 : AV) (xs : List (List AV)) : Prop where
 ok : ∃ id sp sz cap cs ys, v0 = .ms id sp sz 0 xs.length cap /\ look id S.heap = some (sp, .cells cs) /\ flat.flatL cs = true /\ (∀ x ∈ xs, x.length = sz) /\ cs = xs.flatten ++ ys
theorem zlm : ∀ l : List Int, flat.flatL (l.map (AV.int .i64)) = true
 | [] => rfl
 | z :: l => by simp only [y1d, flat.flatL, zlm l]; rfl
theorem OwnR.ints {S : AS} {id sp len : Nat} {cap : Option Nat} (l : List Int) (hl : l.length = len) (h : look id S.heap = some (sp, .cells (l.map (AV.int .i64)))) : OwnR S (.ms id sp 1 0 len cap) (l.map fun z => [.int .i64 z]) :=
 ⟨id, sp, 1, cap, _, [], by rw [y06, hl], h, zlm l, fun x hx => by obtain ⟨z, _, rfl⟩ := y0p.1 hx; rfl, by
  rw [y0s];clear h hl
  induction l with
  | nil => rfl
  | cons z l ih => simpa using ih⟩
end Go.Am
