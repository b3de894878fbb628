/-
  AN ABSTRACT MACHINE FOR PROOFS, PART 9. A general base for proofs: no program is named here.
-/
import Derived.Test.YtoiblgbaeglgoaaJA8
namespace Go.Am
open Go Go.RowKit
theorem zjn (n : Int) (h0 : -9223372036854775808 ≤ n) (h1 : n < 9223372036854775808) : IntKind.i64.wrap n = n := by
 by_cases h : 0 ≤ n
 ·exact wrap_small n h h1
 ·have hm : n % 18446744073709551616 = n + 18446744073709551616 := by omega
  unfold IntKind.wrap
  simp [IntKind.bits, IntKind.signed, hm]
  omega
def fzl : Nat → Nat → List (Nat × Nat × List AV) → Option (List AV)
 | _, _, [] => none
 | id, sp, (i, s, cs) :: l => match Nat.beq i id && Nat.beq s sp with
  | true => some cs
  | false => fzl id sp l
theorem zo2 {id sp : Nat} {cs : List AV} : ∀ {l : List (Nat × Nat × List AV)}, fzl id sp l = some cs → (id, sp, cs) ∈ l
 | [], h => by cases h
 | (i, s, c) :: l, h => by
  simp only [fzl] at h
  split at h
  ·rename_i e
   simp only [y0h] at e
   obtain rfl := y0r e.1
   obtain rfl := y0r e.2
   injection h with h
   subst h
   exact y05 ..
  ·exact y04 _ (zo2 h)
abbrev zgv := List (Option (Nat × Nat) × List AV)
inductive RenW (live : zgv) (fz : List (Nat × Nat × List AV)) : AV → AV → Prop
 | same {v} (h : hasM v = false) : RenW live fz v v
 | top {v} : RenW live fz v .top
 | mptr {id st off k cs} (h : live[k]? = some (some (id, st), cs)) : RenW live fz (.mptr id st off) (.mptr k 0 off)
 | ms {id st sz off len cap k cs} (h : live[k]? = some (some (id, st), cs)) : RenW live fz (.ms id st sz off len cap) (.ms k 0 sz off len cap)
 | grow {sz k} (h : live[k]? = some (none, [])) : RenW live fz .nils (.ms k 0 sz 0 0 none)
 | nilvs : RenW live fz .nils (.vs [])
 | fptr {id st off cs ds} (h : fzl id st fz = some cs) (hd : cs.drop off = ds) : RenW live fz (.mptr id st off) (.vptr ds)
 | fms {id st sz off len cap cs xs} (h : fzl id st fz = some cs) (hl : xs.length = len) (hs : ∀ x ∈ xs, x.length = sz) (hf : ∃ ys, cs.drop off = xs.flatten ++ ys) : RenW live fz (.ms id st sz off len cap) (.vs xs)
 | agg {xs ys : List AV} (hl : ys.length = xs.length) (h : ∀ (i : Nat) (x y : AV), xs[i]? = some x → ys[i]? = some y → RenW live fz x y) : RenW live fz (.agg xs) (.agg ys)
 | fn {f : FuncId} {xs ys cs ds : List AV} (hl : ys.length = xs.length) (hc : ds.length = cs.length) (h : ∀ (i : Nat) (x y : AV), xs[i]? = some x → ys[i]? = some y → RenW live fz x y) (k : ∀ (i : Nat) (x y : AV), cs[i]? = some x → ds[i]? = some y → RenW live fz x y) : RenW live fz (.fn f xs cs) (.fn f ys ds)
def zc5 : Nat → zgv → List (Nat × Nat × AObj)
 | _, [] => []
 | k, (_, cs) :: l => (k, 0, .cells cs) :: zc5 (k + 1) l
theorem zmt : ∀ (l : zgv) (b k : Nat), look k (zc5 b l) = if b ≤ k then (l[k - b]?).map fun x => (0, .cells x.2) else none
 | [], b, k => by simp [zc5, zei]
 | (i, cs) :: l, b, k => by
  simp only [zc5, za2, zmt l (b + 1) k]
  by_cases e : b = k
  ·subst e; simp
  ·rw [if_neg e]
   by_cases h : b ≤ k
   ·rw [if_pos h, if_pos (by omega), show k - b = (k - (b + 1)) + 1 from by omega]; rfl
   ·rw [if_neg h, if_neg (by omega)]
def memN (i : Nat) : List Nat → Bool
 | [] => false
 | j :: l => Nat.beq j i || memN i l
theorem zty {i : Nat} : ∀ {l : List Nat}, memN i l = true ↔ i ∈ l
 | [] => by simp [memN]
 | j :: l => by
  rw [memN, y0z, zty, y0m]
  exact or_congr ⟨fun h => (y0r h).symm, fun h => by rw [h]; exact Nat.beq_refl j⟩ Iff.rfl
def okW : List Nat → zgv → Bool
 | _, [] => true
 | zg8, (none, cs) :: l => cs.isEmpty && okW zg8 l
 | zg8, (some (id, _), _) :: l => !memN id zg8 && okW (id :: zg8) l
theorem zif : ∀ {live : zgv} {zg8 : List Nat}, okW zg8 live = true → ∀ (k id st : Nat) (cs : List AV), live[k]? = some (some (id, st), cs) → id ∉ zg8
 | [], _, _, k, id, st, cs, e => by simp at e
 | (none, c) :: l, zg8, h, k, id, st, cs, e => by
  simp only [okW, y0h] at h
  cases k with
  | zero => simp at e
  | succ k => exact zif h.2 k id st cs (by simpa using e)
 | (some (i, s), c) :: l, zg8, h, k, id, st, cs, e => by
  simp only [okW, y0h, y21] at h
  cases k with
  | zero =>
   simp only [y1l, y00, y0a] at e
   obtain ⟨⟨rfl, _⟩, _⟩ := e
   intro hm
   rw [zty.2 hm] at h
   exact absurd h.1 (by decide)
  | succ k => exact fun hm => zif h.2 k id st cs (by simpa using e) (y04 _ hm)
theorem zzk : ∀ {live : zgv} {zg8 : List Nat}, okW zg8 live = true → ∀ (k k' id st st' : Nat) (cs cs' : List AV), live[k]? = some (some (id, st), cs) → live[k']? = some (some (id, st'), cs') → k = k'
 | [], _, _, k, k', id, st, st', cs, cs', e, _ => by simp at e
 | (o, c) :: l, zg8, h, k, k', id, st, st', cs, cs', e, e' => by
  have tl : ∃ seen', okW seen' l = true ∧ ∀ i s, o = some (i, s) → i ∈ seen' := by
   cases o with
   | none =>
    simp only [okW, y0h] at h
    exact ⟨_, h.2, fun i s hh => by cases hh⟩
   | some p =>
    obtain ⟨i, s⟩ := p
    simp only [okW, y0h] at h
    exact ⟨_, h.2, fun i' s' hh => by injection hh with hh; injection hh with h1 h2; subst h1; exact y05 ..⟩
  obtain ⟨seen', h1, h2⟩ := tl
  cases k with
  | zero =>
   cases k' with
   | zero => rfl
   | succ k' =>
    simp only [y1l, y00, y0a] at e
    exact absurd (h2 _ _ e.1) (zif h1 k' id st' cs' (by simpa using e'))
  | succ k =>
   cases k' with
   | zero =>
    simp only [y1l, y00, y0a] at e'
    exact absurd (h2 _ _ e'.1) (zif h1 k id st cs (by simpa using e))
   | succ k' => exact congrArg _ (zzk h1 k k' id st st' cs cs' (by simpa using e) (by simpa using e'))
section
variable {w0 : World} {N0 : Nat} {S : AS}
def zc8 : Nat → Nat → List (Nat × Nat × AObj)
 | _, 0 => []
 | b, m + 1 => (b, 0, .deferred) :: zc8 (b + 1) m
def zdz : Nat → Nat → List (Nat × Nat)
 | _, 0 => []
 | b, m + 1 => (b, 0) :: zdz (b + 1) m
theorem zle {α : Type} (k : Nat) : ∀ a b : List (Nat × α), look k (a ++ b) = match look k a with
  | some x => some x
  | none => look k b
 | [], b => by rw [zei]; rfl
 | (j, v) :: a, b => by
  rw [List.cons_append, za2, za2, zle k a b]
  by_cases e : j = k
  ·rw [if_pos e, if_pos e]
  ·rw [if_neg e, if_neg e]
theorem zh3 (k : Nat) : ∀ m b : Nat, look k (zc8 b m) = if b ≤ k ∧ k < b + m then some (0, .deferred) else none
 | 0, b => by rw [if_neg (by omega)]; rfl
 | m + 1, b => by
  rw [zc8, za2, zh3 k m (b + 1)]
  by_cases e : b = k
  ·rw [if_pos e, if_pos (by omega)]
  ·rw [if_neg e]
   by_cases h : b + 1 ≤ k ∧ k < b + 1 + m
   ·rw [if_pos h, if_pos (by omega)]
   ·rw [if_neg h, if_neg (by omega)]
theorem zaj : ∀ m b : Nat, (zdz b m).length = m
 | 0, _ => rfl
 | m + 1, b => by rw [zdz, y0n, zaj m]
theorem zon : ∀ m b i : Nat, (zdz b m)[i]? = if i < m then some (b + i, 0) else none
 | 0, b, i => by simp [zdz]
 | m + 1, b, 0 => by simp [zdz]
 | m + 1, b, i + 1 => by
  rw [zdz, y23, zon m (b + 1) i]
  by_cases h : i < m
  ·rw [if_pos h, if_pos (by omega), show b + 1 + i = b + (i + 1) from by omega]
  ·rw [if_neg h, if_neg (by omega)]
theorem zh5 {m b : Nat} {z : Nat × Nat} (h : z ∈ zdz b m) : b ≤ z.1 ∧ z.1 < b + m ∧ z.2 = 0 := by
 obtain ⟨i, hi⟩ := List.mem_iff_getElem?.1 h
 rw [zon] at hi
 by_cases e : i < m
 ·rw [if_pos e] at hi
  injection hi with hi
  subst hi
  exact ⟨Nat.le_add_right .., by show b + i < b + m; omega, rfl⟩
 ·rw [if_neg e] at hi
  cases hi
theorem zmv : ∀ m b : Nat, ((zdz b m).map (·.1)).Nodup
 | 0, _ => by simp [zdz]
 | m + 1, b => by
  rw [zdz, y1h, List.nodup_cons]
  refine ⟨fun h => ?_, zmv m (b + 1)⟩
  obtain ⟨z, hz, e⟩ := y0o.1 h
  have := (zh5 hz).1
  omega
theorem Sub0.renw {l : List (Nat × AV)} {n nx : Nat} {hp : List (Nat × Nat × AObj)} (live : zgv) (fz : List (Nat × Nat × List AV)) (h1 : n = S.size) (h2 : hp = zc5 0 live ++ zc8 live.length S.marks.length) (h3 : nx = S.marks.length + live.length) (hok : okW (fz.map (·.1)) live = true)
  (hl : ∀ x ∈ live, ∀ i s, x.1 = some (i, s) → ∃ cs, look i S.heap = some (s, .cells cs) ∧ x.2.length = cs.length ∧ ∀ (i : Nat) (u v : AV), cs[i]? = some u → x.2[i]? = some v → RenW live fz u v)
  (hf : ∀ x ∈ fz, look x.1 S.heap = some (x.2.1, .cells x.2.2) ∧ hasM.hasML x.2.2 = false)
  (ht : ∀ x ∈ l, ∃ v, zb2 x.1 S.tmps = some v ∧ RenW live fz v x.2) : Sub0 w0 N0 S ⟨n, zcz l, hp, nx, 1, zdz live.length S.marks.length⟩ := by
 subst h1 h2 h3
 intro I a w h
 have hmk : ∀ (j : Nat) (x : Nat × Nat), S.marks[j]? = some x → look x.1 S.heap = some (x.2, .deferred) ∧ ∃ b base m, I.loc x.1 x.2 = some (.at b base m) ∧ a.defers[j]? = some ({ target := .collected b, args := #[] } : Deferred) := by
  intro j x hx
  have hj : j < a.defers.length := by rw [h.marks.1]; exact (y02.1 hx).1
  obtain ⟨e1, b, base, m, e2, e3⟩ := h.marks.2.1 j x.1 x.2 _ hx (y07 hj)
  exact ⟨e1, b, base, m, e2, by rw [y07 hj, e3]⟩
 have hmi : ∀ (j j' : Nat) (x y : Nat × Nat), S.marks[j]? = some x → S.marks[j']? = some y → x.1 = y.1 → j = j' := by
  intro j j' x y hx hy e
  have hj := (y02.1 hx).1
  exact (List.getElem?_inj (by rw [y09]; exact hj) h.marks.2.2).1 (by rw [y0i, y0i, hx, hy]; exact congrArg some e)
 let I' : LI := { loc := fun k st' => if st' = 0 then (match live[k]? with | some (some x, _) => I.loc x.1 x.2 | some (none, _) => some .void | none => (match S.marks[k - live.length]? with | some x => I.loc x.1 x.2 | none => none)) else none, clk := 1, ok := I.ok }
 have hloc : ∀ {k st : Nat} {lo : Loc}, I'.loc k st = some lo → st = 0 ∧ ((∃ x cs, live[k]? = some (some x, cs) ∧ I.loc x.1 x.2 = some lo) ∨ (∃ cs, live[k]? = some (none, cs) ∧ lo = .void) ∨ (∃ x, live.length ≤ k ∧ S.marks[k - live.length]? = some x ∧ I.loc x.1 x.2 = some lo)) := by
  intro k st lo hk
  simp only [I'] at hk
  split at hk
  ·rename_i e
   cases hx : live[k]? with
   | none =>
    rw [hx] at hk
    have hk : (match S.marks[k - live.length]? with | some x => I.loc x.1 x.2 | none => none) = some lo := hk
    cases hy : S.marks[k - live.length]? with
    | none => rw [hy] at hk; cases hk
    | some y => rw [hy] at hk; exact ⟨e, .inr (.inr ⟨y, List.getElem?_eq_none_iff.1 hx, rfl, hk⟩)⟩
   | some x =>
    obtain ⟨o, cs⟩ := x
    cases o with
    | none => rw [hx] at hk; simp only [y00] at hk; exact ⟨e, .inr (.inl ⟨cs, rfl, hk.symm⟩)⟩
    | some p => rw [hx] at hk; exact ⟨e, .inl ⟨p, cs, rfl, hk⟩⟩
  ·cases hk
 have hloc' : ∀ {k : Nat} {x : Nat × Nat} {cs : List AV}, live[k]? = some (some x, cs) → I'.loc k 0 = I.loc x.1 x.2 := by
  intro k x cs hx
  simp only [I', if_true, hx]
 have hlocv : ∀ {k : Nat} {cs : List AV}, live[k]? = some (none, cs) → I'.loc k 0 = some .void := by
  intro k cs hx
  simp only [I', if_true, hx]
 have hro : ∀ b, I.ro b → I'.ro b := fun b hb => ⟨hb.1, fun k st base m e => by
  obtain ⟨_, h2 | h2 | h2⟩ := hloc e
  ·obtain ⟨x, cs, _, h2⟩ := h2; exact hb.2 _ _ _ _ h2
  ·obtain ⟨cs, _, h2⟩ := h2; cases h2
  ·obtain ⟨x, _, _, h2⟩ := h2; exact hb.2 _ _ _ _ h2⟩
 have hfro : ∀ {id st b base n : Nat} {cs : List AV}, fzl id st fz = some cs → I.loc id st = some (.at b base n) → I'.ro b := by
  intro id st b base n cs hz hb
  have hmem := zo2 hz
  refine ⟨h.hrel.okN _ (h.hrel.fresh _ _ _ _ _ hb), fun k st' base' m e => ?_⟩
  obtain ⟨_, h2 | h2 | h2⟩ := hloc e
  ·obtain ⟨x, cs', hx, h2⟩ := h2
   have := h.hrel.inj _ _ _ _ _ _ _ _ _ hb h2
   subst this
   exact zif hok k x.1 x.2 cs' hx (y0o.2 ⟨_, hmem, rfl⟩)
  ·obtain ⟨cs', _, h2⟩ := h2; cases h2
  ·obtain ⟨x, _, hx, h2⟩ := h2
   have e1 := h.hrel.inj _ _ _ _ _ _ _ _ _ hb h2
   have e2 := (hmk _ _ hx).1
   have e3 : look id S.heap = some (st, .cells cs) := (hf _ hmem).1
   rw [e1, e2] at e3
   cases e3
 have hV : ∀ {v v' : AV}, RenW live fz v v' → ∀ {u : Value}, VRel w I.ro (some I) v u → VRel w I'.ro (some I') v' u := by
  intro v v' hr
  induction hr with
  | same hm => intro u hv; exact (ziw hv hm).mono (fun b i x hb hc => ⟨hro b hb, hc⟩) trivial
  | top => intro u _; exact .top
  | mptr hk =>
   intro u hv
   cases hv with
   | mptr hp hx =>
    obtain ⟨J, hJ, c1, c2, c3⟩ := hx
    injection hJ with hJ; subst hJ
    refine .mptr hp ⟨_, rfl, Nat.one_pos, ?_, ?_⟩
    ·rw [hloc' hk]; exact c2
    ·rw [hloc' hk]; exact c3
  | ms hk =>
   intro u hv
   cases hv with
   | ms a1 a2 a3 hx =>
    obtain ⟨J, hJ, c1, c2, c3⟩ := hx
    injection hJ with hJ; subst hJ
    refine .ms a1 a2 a3 ⟨_, rfl, Nat.one_pos, ?_, ?_⟩
    ·rw [hloc' hk]; exact c2
    ·rw [hloc' hk]; exact c3
  | grow hk =>
   intro u hv
   cases hv with
   | nils =>
    refine .ms (y0c _) (fun h => absurd h (Nat.lt_irrefl _)) (fun k hk => by cases hk) ⟨_, rfl, Nat.one_pos, fun b base n e => ?_, fun _ => rfl⟩
    rw [hlocv hk] at e; cases e
  | nilvs =>
   intro u hv
   cases hv with
   | nils => exact .nilvs
  | @fptr id st off cs ds hz hd =>
   intro u hv
   obtain ⟨hlk, hM⟩ := hf _ (zo2 hz)
   subst hd
   cases hv with
   | mptr hp hx =>
    obtain ⟨J, hJ, c1, c2, c3⟩ := hx
    injection hJ with hJ; subst hJ
    obtain ⟨_, lo, l1, l2⟩ := h.hrel.heap _ _ _ hlk
    cases lo with
    | void => exact absurd l1 c2
    | «at» b base n =>
     have hu := c3 _ _ _ l1
     subst hu
     obtain ⟨c, elem, o1, o2, o3, o4⟩ := l2
     have hb := hfro hz l1
     refine .vptr (fun i => c.getD (base + (off + i)) undef) (fun i x hx => ?_) fun i x hx => ?_
     ·rw [y12] at hx
      have hlt : off + i < cs.length := (y02.1 hx).1
      have hlt2 : base + (off + i) < c.size := by simp only at o3; omega
      refine ⟨hb, ?_⟩
      rw [show base + off + i = base + (off + i) from by omega]
      simp [World.cell?, o1, hlt2, y03]
     ·rw [y12] at hx
      exact (ziw (o4 _ _ hx) (zbp hM _ _ hx)).mono (fun b i x hb hc => ⟨hro b hb, hc⟩) trivial
  | @fms id st sz off len cap cs xs hz hlen hs hfl =>
   intro u hv
   obtain ⟨hlk, hM⟩ := hf _ (zo2 hz)
   obtain ⟨ys, hfl⟩ := hfl
   cases hv with
   | @ms _ _ _ _ _ _ _ p c hlc hp hcap hcl =>
    obtain ⟨J, hJ, c1, c2, c3⟩ := hcl
    injection hJ with hJ; subst hJ
    have zero : c = 0 → VRel w I'.ro (some I') (.vs xs) (.slice p len c) := fun hc => by
     subst hc
     obtain rfl : len = 0 := by omega
     obtain rfl := y1k.1 hlen
     exact .nilvs
    obtain ⟨_, lo, l1, l2⟩ := h.hrel.heap _ _ _ hlk
    cases lo with
    | void => exact zero (c3 l1)
    | «at» b base n =>
     rcases c2 b base n l1 with h00 | ⟨e1, _⟩
     ·exact zero h00
     ·subst e1
      obtain ⟨cc, elem, o1, o2, o3, o4⟩ := l2
      have hb := hfro hz l1
      have hget : ∀ i j e x, xs[i]? = some e → e[j]? = some x → cs[off + (i * sz + j)]? = some x := by
       intro i j e x hi hj
       have key : ∀ (xs : List (List AV)), (∀ x ∈ xs, x.length = sz) → ∀ i, xs[i]? = some e → (xs.flatten ++ ys)[i * sz + j]? = some x := by
        intro xs
        induction xs with
        | nil => intro _ i hi; simp at hi
        | cons y xs ih =>
         intro hs i hi
         have hy : y.length = sz := hs y (y05 ..)
         cases i with
         | zero =>
          simp only [y1l, y00] at hi
          subst hi
          have hj' : j < y.length := (y02.1 hj).1
          rw [y2d, y1r, y1n, y1j, y0u hj']
          exact hj
         | succ i =>
          rw [y1n, y1j, y13 (by rw [hy, y1z]; omega), show (i + 1) * sz + j - y.length = i * sz + j from by rw [hy, y1z]; omega]
          exact ih (fun x hx => hs x (y04 _ hx)) i (by simpa using hi)
       have := key xs hs i hi
       rw [← hfl, y12] at this
       exact this
      refine .vs (sz := sz) (b := b) (off := base + off) (fun i j => cc.getD (base + (off + (i * sz + j))) undef) hlen.symm hlc (fun _ => rfl) hs (fun i j e x hi hj => ?_) fun i j e x hi hj => ?_
      ·have hx := hget i j e x hi hj
       have hlt : off + (i * sz + j) < cs.length := (y02.1 hx).1
       have hlt2 : base + (off + (i * sz + j)) < cc.size := by simp only at o3; omega
       refine ⟨hb, ?_⟩
       rw [show base + off + i * sz + j = base + (off + (i * sz + j)) from by omega]
       simp [World.cell?, o1, hlt2, y03]
      ·have hx := hget i j e x hi hj
       exact (ziw (o4 _ _ hx) (zbp hM _ _ hx)).mono (fun b i x hb hc => ⟨hro b hb, hc⟩) trivial
  | agg hl _ ih =>
   intro u hv
   cases hv with
   | agg a1 a2 =>
    refine .agg (by rw [a1, hl]) fun i y hy => ?_
    have hi : i < _ := (y02.1 hy).1
    have hx := y07 (hl ▸ hi)
    exact ih i _ y hx hy (a2 i _ hx)
  | fn hl hc _ _ ih1 ih2 =>
   intro u hv
   cases hv with
   | fn a1 a2 a3 a4 =>
    refine .fn (by rw [a1, hl]) (by rw [a2, hc]) (fun i y hy => ?_) fun i y hy => ?_
    ·have hi : i < _ := (y02.1 hy).1
     have hx := y07 (hl ▸ hi)
     exact ih1 i _ y hx hy (a3 i _ hx)
    ·have hi : i < _ := (y02.1 hy).1
     have hx := y07 (hc ▸ hi)
     exact ih2 i _ y hx hy (a4 i _ hx)
 have hlk : ∀ k, look k (zc5 0 live ++ zc8 live.length S.marks.length) = match live[k]? with
   | some x => some (0, .cells x.2)
   | none => if live.length ≤ k ∧ k < live.length + S.marks.length then some (0, .deferred) else none := by
  intro k
  rw [zle, zmt, zh3]
  simp only [y0t, if_true, Nat.sub_zero]
  cases live[k]? <;> rfl
 have hlook : ∀ {k st : Nat} {o : AObj}, look k (zc5 0 live ++ zc8 live.length S.marks.length) = some (st, o) → st = 0 ∧ ((∃ x, live[k]? = some x ∧ o = .cells x.2) ∨ (live[k]? = none ∧ live.length ≤ k ∧ k < live.length + S.marks.length ∧ o = .deferred)) := by
  intro k st o e
  rw [hlk] at e
  cases hx : live[k]? with
  | some x =>
   rw [hx] at e
   simp only [y00, y0a] at e
   exact ⟨e.1.symm, .inl ⟨x, rfl, e.2.symm⟩⟩
  | none =>
   rw [hx] at e
   simp only at e
   split at e
   ·rename_i hh
    simp only [y00, y0a] at e
    exact ⟨e.1.symm, .inr ⟨rfl, hh.1, hh.2, e.2.symm⟩⟩
   ·cases e
 have hlocm : ∀ {k : Nat} {x : Nat × Nat}, live[k]? = none → S.marks[k - live.length]? = some x → I'.loc k 0 = I.loc x.1 x.2 := by
  intro k x hx hy
  simp only [I', if_true, hx, hy]
 have hvoid : ∀ {live : zgv} {zg8 : List Nat}, okW zg8 live = true → ∀ {k : Nat} {cs : List AV}, live[k]? = some (none, cs) → cs = [] := by
  intro live
  induction live with
  | nil => intro zg8 _ k cs e; simp at e
  | cons y live ih =>
   intro zg8 h k cs e
   obtain ⟨o, c⟩ := y
   cases o with
   | none =>
    simp only [okW, y0h] at h
    cases k with
    | zero =>
     simp only [y1l, y00, y0a, true_and] at e
     subst e
     exact List.isEmpty_iff.1 h.1
    | succ k => exact ih h.2 (by simpa using e)
   | some p =>
    simp only [okW, y0h] at h
    cases k with
    | zero => simp at e
    | succ k => exact ih h.2 (by simpa using e)
 refine ⟨I', ⟨rfl, ⟨h.tmps.1, fun d v hv => ?_⟩, ?_, ?_⟩, rfl⟩
 ·replace hv : zb2 d (zcz l) = some v := hv
  have : ∃ x ∈ l, x.1 = d ∧ x.2 = v := by
   clear ht
   induction l with
   | nil => simp [zcz, zdq] at hv
   | cons y l ih =>
    obtain ⟨k, u⟩ := y
    simp only [zcz, zcg] at hv
    by_cases e : k = d
    ·rw [if_pos e] at hv; injection hv with hv; exact ⟨(k, u), y05 .., e, hv⟩
    ·rw [if_neg e] at hv
     obtain ⟨x, hx, e2⟩ := ih hv
     exact ⟨x, y04 _ hx, e2⟩
  obtain ⟨x, hx, rfl, rfl⟩ := this
  obtain ⟨v, hv2, hr⟩ := ht x hx
  exact hV hr (h.tmps.2 _ _ hv2)
 ·refine ⟨h.hrel.below, h.hrel.base, fun k st o e => ?_, fun k st lo e => ?_, fun k st b base m k' st' base' m' e1 e2 => ?_, fun k st b base m e => ?_, fun k hk => ?_, h.hrel.okN, h.hrel.glob.mono fun b i x hb hc => ⟨hro b hb, hc⟩⟩
  ·obtain ⟨rfl, ⟨x, hx, rfl⟩ | ⟨hx, hge, hlt, rfl⟩⟩ := hlook e
   rotate_left
   ·obtain ⟨y, hy⟩ : ∃ y, S.marks[k - live.length]? = some y := ⟨_, y07 (by omega)⟩
    obtain ⟨e1, b, base, m, e2, e3⟩ := hmk _ _ hy
    refine ⟨Nat.one_pos, _, (hlocm hx hy).trans e2, ?_⟩
    obtain ⟨_, lo, l1, l2⟩ := h.hrel.heap _ _ _ e1
    rw [e2] at l1
    injection l1 with l1
    subst l1
    exact l2
   obtain ⟨o, ds⟩ := x
   cases o with
   | none =>
    refine ⟨Nat.one_pos, .void, hlocv hx, ?_⟩
    exact hvoid hok hx
   | some p =>
   obtain ⟨cs, c1, c2, c3⟩ := hl _ (y08 hx) p.1 p.2 rfl
   obtain ⟨_, lo, l1, l2⟩ := h.hrel.heap _ _ _ c1
   refine ⟨Nat.one_pos, lo, by rw [hloc' hx]; exact l1, ?_⟩
   cases lo with
   | void =>
    have : cs = [] := l2
    subst this
    exact y1k.1 c2
   | «at» b base m =>
    obtain ⟨c, elem, o1, o2, o3, o4⟩ := l2
    refine ⟨c, elem, o1, o2, by omega, fun i y hy => ?_⟩
    have hi : i < cs.length := by have := (y02.1 hy).1; omega
    exact hV (c3 i _ y (y07 hi) hy) (o4 i _ (y07 hi))
  ·obtain ⟨rfl, hh⟩ := hloc e
   rcases hh with ⟨x, cs, hx, _⟩ | ⟨cs, hx, _⟩ | ⟨x, hx, hy, _⟩
   ·exact ⟨.cells cs, by rw [hlk, hx]⟩
   ·exact ⟨.cells cs, by rw [hlk, hx]⟩
   ·have := (y02.1 hy).1
    exact ⟨.deferred, by rw [hlk, List.getElem?_eq_none hx]; exact if_pos ⟨hx, by omega⟩⟩
  ·obtain ⟨rfl, g1⟩ := hloc e1
   obtain ⟨rfl, g2⟩ := hloc e2
   have cross : ∀ {k k' : Nat} {x y : Nat × Nat} {cs : List AV} {b base base' m m' : Nat}, live[k]? = some (some x, cs) → I.loc x.1 x.2 = some (.at b base m) → S.marks[k']? = some y → I.loc y.1 y.2 = some (.at b base' m') → False := by
    intro k k' x y cs b base base' m m' hx g1 hy g2
    have e := h.hrel.inj _ _ _ _ _ _ _ _ _ g1 g2
    obtain ⟨cs', c1, _⟩ := hl _ (y08 hx) x.1 x.2 rfl
    rw [e, (hmk _ _ hy).1] at c1
    simp at c1
   rcases g1 with ⟨x, cs, hx, g1⟩ | ⟨cs, hx, g1⟩ | ⟨x, hk, hx, g1⟩
   ·rcases g2 with ⟨y, cs', hy, g2⟩ | ⟨cs', hy, g2⟩ | ⟨y, hk', hy, g2⟩
    ·have := h.hrel.inj _ _ _ _ _ _ _ _ _ g1 g2
     obtain ⟨x1, x2⟩ := x
     obtain ⟨y1, y2⟩ := y
     simp only at this
     subst this
     exact zzk hok _ _ _ _ _ _ _ hx hy
    ·cases g2
    ·exact (cross hx g1 hy g2).elim
   ·cases g1
   ·rcases g2 with ⟨y, cs', hy, g2⟩ | ⟨cs', hy, g2⟩ | ⟨y, hk', hy, g2⟩
    ·exact (cross hy g2 hx g1).elim
    ·cases g2
    ·have := hmi _ _ _ _ hx hy (h.hrel.inj _ _ _ _ _ _ _ _ _ g1 g2)
     omega
  ·obtain ⟨_, g1 | g1 | g1⟩ := hloc e
   ·obtain ⟨x, cs, _, g1⟩ := g1; exact h.hrel.fresh _ _ _ _ _ g1
   ·obtain ⟨cs, _, g1⟩ := g1; cases g1
   ·obtain ⟨x, _, _, g1⟩ := g1; exact h.hrel.fresh _ _ _ _ _ g1
  ·have hk : S.marks.length + live.length ≤ k := hk
   rw [hlk, List.getElem?_eq_none (by omega)]
   exact if_neg (by omega)
 ·refine ⟨by rw [h.marks.1, zaj], fun i id st d e hd => ?_, zmv ..⟩
  rw [zon] at e
  by_cases hi : i < S.marks.length
  ·rw [if_pos hi] at e
   simp only [y00, y0a] at e
   obtain ⟨rfl, rfl⟩ := e
   have hn : live[live.length + i]? = none := List.getElem?_eq_none (by omega)
   obtain ⟨y, hy⟩ : ∃ y, S.marks[i]? = some y := ⟨_, y07 hi⟩
   obtain ⟨e1, b, base, m, e2, e3⟩ := hmk _ _ hy
   refine ⟨by rw [hlk, hn]; exact if_pos ⟨Nat.le_add_right .., by omega⟩, b, base, m, ?_, ?_⟩
   ·rw [hlocm (x := y) hn (by rw [Nat.add_sub_cancel_left]; exact hy)]; exact e2
   ·have hd : a.defers[i]? = some d := hd
    rw [e3] at hd
    exact (Option.some.inj hd).symm
  ·rw [if_neg hi] at e; cases e
end
inductive RnA (live : zgv) (fz : List (Nat × Nat × List AV)) (l : List (Nat × AV)) : List (Nat × AV) → Prop
 | nil : RnA live fz l []
 | cons {d : Nat} {v v' : AV} {l' : List (Nat × AV)} (h : zbn d l = some v) (r : RenW live fz v v') (k : RnA live fz l l') : RnA live fz l ((d, v') :: l')
inductive RnC (live : zgv) (fz : List (Nat × Nat × List AV)) : List AV → List AV → Prop
 | nil : RnC live fz [] []
 | cons {u v : AV} {us vs : List AV} (r : RenW live fz u v) (k : RnC live fz us vs) : RnC live fz (u :: us) (v :: vs)
 | keep {us : List AV} (h : hasM.hasML us = false) : RnC live fz us us
theorem RnC.length {live : zgv} {fz : List (Nat × Nat × List AV)} {us vs : List AV} (h : RnC live fz us vs) : vs.length = us.length := by
 induction h with
 | nil => rfl
 | cons _ _ ih => simp [ih]
 | keep => rfl
theorem RnC.get {live : zgv} {fz : List (Nat × Nat × List AV)} {us vs : List AV} (h : RnC live fz us vs) : ∀ (i : Nat) (u v : AV), us[i]? = some u → vs[i]? = some v → RenW live fz u v := by
 induction h with
 | nil => intro i u v e; simp at e
 | cons r _ ih =>
  intro i u v e1 e2
  cases i with
  | zero =>
   simp only [y1l, y00] at e1 e2
   subst e1 e2
   exact r
  | succ i => exact ih i u v (by simpa using e1) (by simpa using e2)
 | keep h =>
  intro i u v e1 e2
  rw [e1] at e2
  injection e2 with e2
  subst e2
  exact .same (zbp h i u e1)
theorem RnC.snoc {live : zgv} {fz : List (Nat × Nat × List AV)} {us : List AV} {u v : AV} (h : hasM.hasML us = false) (r : RenW live fz u v) : RnC live fz (us ++ [u]) (us ++ [v]) := by
 induction us with
 | nil => exact .cons r .nil
 | cons x us ih =>
  simp only [hasM.hasML, y16] at h
  exact .cons (.same h.1) (ih h.2)
theorem RenW.fms1 {live : zgv} {fz : List (Nat × Nat × List AV)} {id sp len : Nat} {cap : Option Nat} {vs : List AV} (h : fzl id sp fz = some vs) (hl : vs.length = len) : RenW live fz (.ms id sp 1 0 len cap) (.vs (vs.map fun v => [v])) :=
 .fms h (by rw [y09]; exact hl) (fun x hx => by obtain ⟨v, _, rfl⟩ := y0o.1 hx; rfl) ⟨[], by
  rw [y14, y0p]
  clear h hl
  induction vs with
  | nil => rfl
  | cons v vs ih => simpa using ih⟩
inductive RnH (live : zgv) (fz : List (Nat × Nat × List AV)) (hp : List (Nat × Nat × AObj)) : zgv → Prop
 | nil : RnH live fz hp []
 | new {l : zgv} (k : RnH live fz hp l) : RnH live fz hp ((none, []) :: l)
 | cons {id sp : Nat} {cs cs' : List AV} {l : zgv} (h : look id hp = some (sp, .cells cs)) (r : RnC live fz cs cs') (k : RnH live fz hp l) : RnH live fz hp ((some (id, sp), cs') :: l)
inductive RnF (hp : List (Nat × Nat × AObj)) : List (Nat × Nat × List AV) → Prop
 | nil : RnF hp []
 | cons {id sp : Nat} {cs : List AV} {l : List (Nat × Nat × List AV)} (h : look id hp = some (sp, .cells cs)) (m : hasM.hasML cs = false) (k : RnF hp l) : RnF hp ((id, sp, cs) :: l)
theorem RenW.fms0 {live : zgv} {fz : List (Nat × Nat × List AV)} {id st sz len : Nat} {cap : Option Nat} {cs : List AV} {xs : List (List AV)} (h : fzl id st fz = some cs) (hl : xs.length = len) (hs : ∀ x ∈ xs, x.length = sz) (hf : cs = xs.flatten) : RenW live fz (.ms id st sz 0 len cap) (.vs xs) :=
 .fms h hl hs ⟨[], by rw [y14, y0p, hf]⟩
section
variable {w0 : World} {N0 n nx nx' ck : Nat} {l l' : List (Nat × AV)} {hp hp' : List (Nat × Nat × AObj)}
theorem zlr {mk : List (Nat × Nat)} (live : zgv) (fz : List (Nat × Nat × List AV)) (hh : hp' = zc5 0 live ++ zc8 live.length mk.length) (hx : nx' = mk.length + live.length) (hok : okW (fz.map (·.1)) live = true) (hf : RnF hp fz) (h1 : RnH live fz hp live) (h2 : RnA live fz l l') : Sub0 w0 N0 (st n l hp nx ck mk) (st n l' hp' nx' 1 (zdz live.length mk.length)) := by
 refine Sub0.renw live fz rfl hh hx hok ?_ ?_ ?_
 ·have : ∀ {m : zgv}, RnH live fz hp m → ∀ x ∈ m, ∀ i s, x.1 = some (i, s) → ∃ cs, look i hp = some (s, .cells cs) ∧ x.2.length = cs.length ∧ ∀ (i : Nat) (u v : AV), cs[i]? = some u → x.2[i]? = some v → RenW live fz u v := by
   intro m hm
   induction hm with
   | nil => intro x hx; cases hx
   | new _ ih =>
    intro x hx i s e
    rcases y0m.1 hx with rfl | hx
    ·cases e
    ·exact ih x hx i s e
   | cons h r _ ih =>
    intro x hx i s e
    rcases y0m.1 hx with rfl | hx
    ·injection e with e
     injection e with e1 e2
     subst e1 e2
     exact ⟨_, h, r.length, r.get⟩
    ·exact ih x hx i s e
  exact this h1
 ·have : ∀ {m : List (Nat × Nat × List AV)}, RnF hp m → ∀ x ∈ m, look x.1 hp = some (x.2.1, .cells x.2.2) ∧ hasM.hasML x.2.2 = false := by
   intro m hm
   induction hm with
   | nil => intro x hx; cases hx
   | cons h m _ ih =>
    intro x hx
    rcases y0m.1 hx with rfl | hx
    ·exact ⟨h, m⟩
    ·exact ih x hx
  exact this hf
 ·have : ∀ {m : List (Nat × AV)}, RnA live fz l m → ∀ x ∈ m, ∃ v, zbn x.1 l = some v ∧ RenW live fz v x.2 := by
   intro m hm
   induction hm with
   | nil => intro x hx; cases hx
   | cons h r _ ih =>
    intro x hx
    rcases y0m.1 hx with rfl | hx
    ·exact ⟨_, h, r⟩
    ·exact ih x hx
  intro x hx
  obtain ⟨v, e1, e2⟩ := this h2 x hx
  exact ⟨v, (zcy x.1 l).trans e1, e2⟩
theorem zcp (live : zgv) (fz : List (Nat × Nat × List AV)) (hh : hp' = zc5 0 live) (hx : nx' = live.length) (hok : okW (fz.map (·.1)) live = true) (hf : RnF hp fz) (h1 : RnH live fz hp live) (h2 : RnA live fz l l') : Sub0 w0 N0 (st n l hp nx ck) (st n l' hp' nx' 1) :=
 zlr (mk := []) live fz (by rw [hh]; exact (y0p _).symm) (by rw [hx]; exact (y1r _).symm) hok hf h1 h2
end
inductive RenF (id sp : Nat) (cs : List AV) : AV → AV → Prop
 | same {v} : RenF id sp cs v v
 | fptr {off ds} (hd : cs.drop off = ds) : RenF id sp cs (.mptr id sp off) (.vptr ds)
 | fms {sz off len cap xs} (hl : xs.length = len) (hs : ∀ x ∈ xs, x.length = sz) (hf : ∃ ys, cs.drop off = xs.flatten ++ ys) : RenF id sp cs (.ms id sp sz off len cap) (.vs xs)
inductive RnT (id sp : Nat) (cs : List AV) (l : List (Nat × AV)) : List (Nat × AV) → Prop
 | nil : RnT id sp cs l []
 | cons {d : Nat} {v v' : AV} {l' : List (Nat × AV)} (h : zbn d l = some v) (r : RenF id sp cs v v') (k : RnT id sp cs l l') : RnT id sp cs l ((d, v') :: l')
theorem tmOf_get {l : List (Nat × AV)} {d : Nat} {v : AV} (hv : zb2 d (zcz l) = some v) : ∃ x ∈ l, x.1 = d ∧ x.2 = v := by
 induction l with
 | nil => simp [zcz, zdq] at hv
 | cons y l ih =>
  obtain ⟨k, u⟩ := y
  simp only [zcz, zcg] at hv
  by_cases e : k = d
  ·rw [if_pos e] at hv; injection hv with hv; exact ⟨(k, u), y05 .., e, hv⟩
  ·rw [if_neg e] at hv
   obtain ⟨x, hx, e2⟩ := ih hv
   exact ⟨x, y04 _ hx, e2⟩
section
variable {w0 : World} {N0 n nx ck : Nat} {l l' : List (Nat × AV)} {hp : List (Nat × Nat × AObj)} {mk : List (Nat × Nat)}
theorem znb {id sp : Nat} {cs : List AV} (hk : look id hp = some (sp, .cells cs)) (hM : hasM.hasML cs = false) (h2 : RnT id sp cs l l') : Sub w0 N0 (st n l hp nx ck mk) (st n l' (zbe id hp) nx ck mk) := by
 intro I a w h
 let I' : LI := { loc := fun k s => if k = id then none else I.loc k s, clk := I.clk, ok := I.ok }
 have hne : ∀ {k s : Nat} {lo : Loc}, I'.loc k s = some lo → k ≠ id ∧ I.loc k s = some lo := by
  intro k s lo e
  simp only [I'] at e
  split at e
  ·cases e
  ·rename_i hn; exact ⟨hn, e⟩
 have hro : ∀ b, I.ro b → I'.ro b := fun b hb => ⟨hb.1, fun k s base m e => hb.2 _ _ _ _ (hne e).2⟩
 have hev : Evo I w I' w := ⟨y0c _, fun k s lo _ e => (hne e).2, fun b i x hb hc => ⟨hro b hb, hc⟩, rfl⟩
 have hfro : ∀ {b base m : Nat}, I.loc id sp = some (.at b base m) → I'.ro b := by
  intro b base m hb
  refine ⟨h.hrel.okN _ (h.hrel.fresh _ _ _ _ _ hb), fun k s base' m' e => ?_⟩
  obtain ⟨e1, e2⟩ := hne e
  exact e1 (h.hrel.inj _ _ _ _ _ _ _ _ _ e2 hb)
 obtain ⟨_, lo, l1, l2⟩ := h.hrel.heap _ _ _ hk
 have hcell : ∀ {b base m : Nat}, lo = .at b base m → ∀ (i : Nat) (x : AV), cs[i]? = some x → ∃ u, w.cell? ⟨b, base + i, none⟩ = some u ∧ VRel w I'.ro none x u := by
  intro b base m e i x hx
  subst e
  obtain ⟨c, elem, o1, o2, o3, o4⟩ := l2
  have hlt : i < cs.length := (y02.1 hx).1
  have hlt2 : base + i < c.size := by omega
  exact ⟨c.getD (base + i) undef, by simp [World.cell?, o1, hlt2, y03], (ziw (o4 _ _ hx) (zbp hM _ _ hx)).mono (fun b i x hb hc => ⟨hro b hb, hc⟩) trivial⟩
 have hV : ∀ {v v' : AV}, RenF id sp cs v v' → ∀ {u : Value}, VRel w I.ro (some I) v u → VRel w I'.ro (some I') v' u := by
  intro v v' hr u hv
  cases hr with
  | same => exact hv.evo hev
  | @fptr off ds hd =>
   subst hd
   cases hv with
   | mptr hp hx =>
    obtain ⟨J, hJ, c1, c2, c3⟩ := hx
    injection hJ with hJ; subst hJ
    cases lo with
    | void => exact absurd l1 c2
    | «at» b base m =>
     have hu := c3 _ _ _ l1
     subst hu
     have hb := hfro l1
     refine .vptr (fun i => (w.cell? ⟨b, base + (off + i), none⟩).getD undef) (fun i x hx => ?_) fun i x hx => ?_
     ·rw [y12] at hx
      obtain ⟨u, g1, g2⟩ := hcell rfl _ _ hx
      exact ⟨hb, by rw [g1, show base + off + i = base + (off + i) from by omega, g1]; rfl⟩
     ·rw [y12] at hx
      obtain ⟨u, g1, g2⟩ := hcell rfl _ _ hx
      rw [g1]; exact g2
  | @fms sz off len cap xs hlen hs hfl =>
   obtain ⟨ys, hfl⟩ := hfl
   cases hv with
   | @ms _ _ _ _ _ _ _ p c hlc hp hcap hcl =>
    obtain ⟨J, hJ, c1, c2, c3⟩ := hcl
    injection hJ with hJ; subst hJ
    have zero : c = 0 → VRel w I'.ro (some I') (.vs xs) (.slice p len c) := fun hc => by
     subst hc
     obtain rfl : len = 0 := by omega
     obtain rfl := y1k.1 hlen
     exact .nilvs
    cases lo with
    | void => exact zero (c3 l1)
    | «at» b base m =>
     rcases c2 b base m l1 with h00 | ⟨e1, _⟩
     ·exact zero h00
     ·subst e1
      have hb := hfro l1
      have hget : ∀ i j e x, xs[i]? = some e → e[j]? = some x → cs[off + (i * sz + j)]? = some x := by
       intro i j e x hi hj
       have key : ∀ (xs : List (List AV)), (∀ x ∈ xs, x.length = sz) → ∀ i, xs[i]? = some e → (xs.flatten ++ ys)[i * sz + j]? = some x := by
        intro xs
        induction xs with
        | nil => intro _ i hi; simp at hi
        | cons y xs ih =>
         intro hs i hi
         have hy : y.length = sz := hs y (y05 ..)
         cases i with
         | zero =>
          simp only [y1l, y00] at hi
          subst hi
          have hj' : j < y.length := (y02.1 hj).1
          rw [y2d, y1r, y1n, y1j, y0u hj']
          exact hj
         | succ i =>
          rw [y1n, y1j, y13 (by rw [hy, y1z]; omega), show (i + 1) * sz + j - y.length = i * sz + j from by rw [hy, y1z]; omega]
          exact ih (fun x hx => hs x (y04 _ hx)) i (by simpa using hi)
       have := key xs hs i hi
       rw [← hfl, y12] at this
       exact this
      refine .vs (sz := sz) (b := b) (off := base + off) (fun i j => (w.cell? ⟨b, base + (off + (i * sz + j)), none⟩).getD undef) hlen.symm hlc (fun _ => rfl) hs (fun i j e x hi hj => ?_) fun i j e x hi hj => ?_
      ·obtain ⟨u, g1, g2⟩ := hcell rfl _ _ (hget i j e x hi hj)
       exact ⟨hb, by rw [g1, show base + off + i * sz + j = base + (off + (i * sz + j)) from by omega, g1]; rfl⟩
      ·obtain ⟨u, g1, g2⟩ := hcell rfl _ _ (hget i j e x hi hj)
       rw [g1]; exact g2
 have hlook : ∀ k, look k (zbe id hp) = if id = k then none else look k hp := fun k => za3 k id hp
 refine ⟨I', ⟨h.clk, ⟨h.tmps.1, fun d v hv => ?_⟩, ?_, ?_⟩, hev⟩
 ·obtain ⟨x, hx, rfl, rfl⟩ := tmOf_get hv
  have : ∀ {m : List (Nat × AV)}, RnT id sp cs l m → ∀ x ∈ m, ∃ v, zbn x.1 l = some v ∧ RenF id sp cs v x.2 := by
   intro m hm
   induction hm with
   | nil => intro x hx; cases hx
   | cons h r _ ih =>
    intro x hx
    rcases y0m.1 hx with rfl | hx
    ·exact ⟨_, h, r⟩
    ·exact ih x hx
  obtain ⟨v, e1, e2⟩ := this h2 x hx
  exact hV e2 (h.tmps.2 _ _ ((zcy x.1 l).trans e1))
 ·refine ⟨h.hrel.below, h.hrel.base, fun k s o e => ?_, fun k s lo e => ?_, fun k s b base m k' s' base' m' e1 e2 => ?_, fun k s b base m e => ?_, fun k hk' => ?_, h.hrel.okN, h.hrel.glob.mono fun b i x hb hc => ⟨hro b hb, hc⟩⟩
  ·replace e : look k (zbe id hp) = some (s, o) := e
   rw [hlook] at e
   split at e
   ·cases e
   ·rename_i hn
    obtain ⟨c1, lo', c2, c3⟩ := h.hrel.heap k s o e
    refine ⟨c1, lo', ?_, c3.evo hev fun _ _ _ _ => rfl⟩
    simp only [I']
    rw [if_neg fun e => hn e.symm]
    exact c2
  ·obtain ⟨e1, e2⟩ := hne e
   obtain ⟨o, ho⟩ := h.hrel.locs _ _ _ e2
   refine ⟨o, ?_⟩
   show look k (zbe id hp) = _
   rw [hlook, if_neg fun e => e1 e.symm]
   exact ho
  ·exact h.hrel.inj _ _ _ _ _ _ _ _ _ (hne e1).2 (hne e2).2
  ·exact h.hrel.fresh _ _ _ _ _ (hne e).2
  ·show look k (zbe id hp) = none
   rw [hlook]
   split
   ·rfl
   ·exact h.hrel.free k hk'
 ·obtain ⟨d1, d2, d3⟩ := h.marks
  refine ⟨d1, fun i k s d e1 e2 => ?_, d3⟩
  obtain ⟨g1, b, base, m, g2, g3⟩ := d2 i k s d e1 e2
  have hn : k ≠ id := fun e => by
   subst e
   have g1 : look k hp = some (s, .deferred) := g1
   rw [hk] at g1
   injection g1 with g1
   injection g1 with _ g1
   cases g1
  refine ⟨?_, b, base, m, ?_, g3⟩
  ·show look k (zbe id hp) = _
   rw [hlook, if_neg fun e => hn e.symm]; exact g1
  ·simp only [I']
   rw [if_neg hn]; exact g2
theorem sub_grow {d sz : Nat} (hd : zbn d l = some .nils) : Sub w0 N0 (st n l hp nx ck mk) (st n ((d, .ms nx ck sz 0 0 none) :: l) ((nx, ck, .cells []) :: hp) (nx + 1) (ck + 1) mk) := by
 intro I a w h
 have hck : I.clk = ck := h.clk
 have hfree : ∀ k, nx ≤ k → look k hp = none := h.hrel.free
 have hnl : ∀ s lo, I.loc nx s ≠ some lo := fun s lo e => by
  obtain ⟨o, ho⟩ := h.hrel.locs _ _ _ e
  have ho : look nx hp = some (s, o) := ho
  rw [hfree nx (y0c _)] at ho
  cases ho
 let I' : LI := { loc := fun k s => if k = nx ∧ s = ck then some .void else I.loc k s, clk := ck + 1, ok := I.ok }
 have hne : ∀ {k s : Nat} {lo : Loc}, I'.loc k s = some lo → (k = nx ∧ s = ck ∧ lo = .void) ∨ I.loc k s = some lo := by
  intro k s lo e
  simp only [I'] at e
  split at e
  ·rename_i hn; injection e with e; exact .inl ⟨hn.1, hn.2, e.symm⟩
  ·exact .inr e
 have hat : ∀ {k s b base m : Nat}, I'.loc k s = some (.at b base m) → I.loc k s = some (.at b base m) := by
  intro k s b base m e
  rcases hne e with ⟨_, _, e⟩ | e
  ·cases e
  ·exact e
 have hkeep : ∀ {k s : Nat} {lo : Loc}, I.loc k s = some lo → I'.loc k s = some lo := by
  intro k s lo e
  simp only [I']
  rw [if_neg fun hh : k = nx ∧ s = ck => hnl s lo (by rw [← hh.1]; exact e)]
  exact e
 have hro : ∀ b, I.ro b → I'.ro b := fun b hb => ⟨hb.1, fun k s base m e => hb.2 _ _ _ _ (hat e)⟩
 have hev : Evo I w I' w := ⟨by show I.clk ≤ ck + 1; omega, fun k s lo hs e => by
  rcases hne e with ⟨_, e, _⟩ | e
  ·omega
  ·exact e, fun b i x hb hc => ⟨hro b hb, hc⟩, rfl⟩
 refine ⟨I', ⟨rfl, ⟨h.tmps.1, fun d' v hv => ?_⟩, ?_, ?_⟩, hev⟩
 ·replace hv : zb2 d' (zcz ((d, .ms nx ck sz 0 0 none) :: l)) = some v := hv
  rw [zcz, zcg] at hv
  split at hv
  ·rename_i e
   subst e
   injection hv with hv
   subst hv
   show VRel w I'.ro (some I') (.ms nx ck sz 0 0 none) (a.tmps.getD d undef)
   have := h.tmps.2 d .nils ((zcy d l).trans hd)
   generalize a.tmps.getD d undef = u at this ⊢
   cases this with
   | nils =>
    refine .ms (y0c _) (fun h => absurd h (Nat.lt_irrefl _)) (fun k hk => by cases hk) ⟨_, rfl, y0k _, fun b base n e => ?_, fun _ => rfl⟩
    simp only [I', and_self, if_true] at e
    cases e
  ·exact (h.tmps.2 _ _ hv).evo hev
 ·refine ⟨h.hrel.below, h.hrel.base, fun k s o e => ?_, fun k s lo e => ?_, fun k s b base m k' s' base' m' e1 e2 => h.hrel.inj _ _ _ _ _ _ _ _ _ (hat e1) (hat e2), fun k s b base m e => h.hrel.fresh _ _ _ _ _ (hat e), fun k hk' => ?_, h.hrel.okN, h.hrel.glob.mono fun b i x hb hc => ⟨hro b hb, hc⟩⟩
  ·replace e : look k ((nx, ck, .cells []) :: hp) = some (s, o) := e
   rw [za2] at e
   split at e
   ·rename_i hn
    subst hn
    injection e with e
    injection e with e1 e2
    subst e1 e2
    exact ⟨y0k _, .void, by simp [I'], rfl⟩
   ·obtain ⟨c1, lo', c2, c3⟩ := h.hrel.heap k s o e
    exact ⟨by show s < ck + 1; omega, lo', hkeep c2, c3.evo hev fun _ _ _ _ => rfl⟩
  ·show ∃ o, look k ((nx, ck, .cells []) :: hp) = some (s, o)
   rw [za2]
   rcases hne e with ⟨rfl, rfl, _⟩ | e
   ·exact ⟨_, if_pos rfl⟩
   ·obtain ⟨o, ho⟩ := h.hrel.locs _ _ _ e
    rw [if_neg fun hh : nx = k => hnl s lo (by rw [hh]; exact e)]
    exact ⟨o, ho⟩
  ·show look k ((nx, ck, .cells []) :: hp) = none
   have hk' : nx + 1 ≤ k := hk'
   rw [za2, if_neg (by omega)]
   exact hfree k (by omega)
 ·obtain ⟨d1, d2, d3⟩ := h.marks
  refine ⟨d1, fun i k s d e1 e2 => ?_, d3⟩
  obtain ⟨g1, b, base, m, g2, g3⟩ := d2 i k s d e1 e2
  refine ⟨?_, b, base, m, hkeep g2, g3⟩
  have g1 : look k hp = some (s, .deferred) := g1
  show look k ((nx, ck, .cells []) :: hp) = _
  rw [za2, if_neg fun hh => by rw [← hh, hfree nx (y0c _)] at g1; cases g1]
  exact g1
end
section
variable {P : Program} {w0 : World} {N0 : Nat} {k : List Fr} {Q : Exit → AS → Prop} {pf : Kn} {ios : List Opr} {n nx ck : Nat} {mk : List (Nat × Nat)} {md : Md} {l : List (Nat × AV)} {hp : List (Nat × Nat × AObj)}
theorem zeg {ic : IC} (live : zgv) (fz : List (Nat × Nat × List AV)) (l' : List (Nat × AV)) (hok : okW (fz.map (·.1)) live = true) (hf : RnF hp fz) (h1 : RnH live fz hp live) (h2 : RnA live fz l l') (h : Zm P w0 N0 none ic (st n l' (zc5 0 live) live.length 1) k Q) : Zm P w0 N0 none ic (st n l hp nx ck) k Q :=
 zf0 (md := none) (zcp live fz rfl rfl hok hf h1 h2) h
theorem z_renwm {ic : IC} (live : zgv) (fz : List (Nat × Nat × List AV)) (l' : List (Nat × AV)) (hok : okW (fz.map (·.1)) live = true) (hf : RnF hp fz) (h1 : RnH live fz hp live) (h2 : RnA live fz l l') (h : Zm P w0 N0 none ic (st n l' (zc5 0 live ++ zc8 live.length mk.length) (mk.length + live.length) 1 (zdz live.length mk.length)) k Q) : Zm P w0 N0 none ic (st n l hp nx ck mk) k Q :=
 zf0 (md := none) (zlr live fz rfl rfl hok hf h1 h2) h
theorem z_grow {ic : IC} (d sz : Nat) (hd : zbn d l = some .nils) (h : Zm P w0 N0 md ic (st n ((d, .ms nx ck sz 0 0 none) :: l) ((nx, ck, .cells []) :: hp) (nx + 1) (ck + 1) mk) k Q) : Zm P w0 N0 md ic (st n l hp nx ck mk) k Q :=
 zf0 (.of_sub (sub_grow hd)) h
theorem z_freeze {ic : IC} {l' : List (Nat × AV)} (id sp : Nat) {cs : List AV} (hk : look id hp = some (sp, .cells cs)) (hM : hasM.hasML cs = false) (h2 : RnT id sp cs l l') (h : Zm P w0 N0 md ic (st n l' (zbe id hp) nx ck mk) k Q) : Zm P w0 N0 md ic (st n l hp nx ck mk) k Q :=
 zf0 (.of_sub (znb hk hM h2)) h
theorem zhi {d : Nat} {a : Arg} {id sp off : Nat} {cs : List AV} {v : AV} (h : zbt a l = some (.mptr id sp off)) (hl : Am.look id hp = some (sp, .cells cs)) (hid : id < nx) (hv : cs[off]? = some v) (go : Om P w0 N0 md pf ios (st n ((d, v) :: l) hp nx ck mk) k Q) (hx : Ops pf (st n l hp nx ck mk) (.load none a) := by first | exact fun _ _ _ _ => rfl | exact ldOk rfl rfl) :
  Om P w0 N0 md pf (⟨some d, .load none a, none⟩ :: ios) (st n l hp nx ck mk) k Q := by
 obtain ⟨h1, h2⟩ := y02.1 hv
 exact zbk h hl hid (by rw [y0g h1, h2]) go hx
theorem ya9 {off : Nat} {cs : List AV} {v : AV} (h : off < cs.length) : setAt off cs [v] = cs.set off v := by
 rw [List.set_eq_take_append_cons_drop, if_pos h]
 simp [setAt]
theorem ze0 {id sp off : Nat} {p x : Arg} {v : AV} {cs : List AV} (h : zbt p l = some (.mptr id sp off)) (hv : zbt x l = some v) (hc : v.cells? = some [v]) (hlk : look id hp = some (sp, .cells cs)) (hlt : off < cs.length) (ha : v.isCell = true) (go : Om P w0 N0 md pf ios (st n l (zax id (sp, .cells (cs.set off v)) hp) nx ck mk) k Q) (hx : Ops pf (st n l hp nx ck mk) (.store 1 p x) := by first | exact fun _ _ _ _ => rfl | exact sdOk rfl rfl) :
  Om P w0 N0 md pf (⟨none, (.store 1 p x), none⟩ :: ios) (st n l hp nx ck mk) k Q :=
 zad h hv hc rfl hlk (Nat.ble_eq.symm.mp hlt) (by simp [ha]) (by rw [ya9 hlt]; exact go) hx
end
section
variable {P : Program} {w0 w : World} {N0 : Nat} {I : LI} {S : AS} {a : Act} {rd : Option (Nat × Nat)}
end
section
variable {P : Program} {w0 : World} {N0 : Nat} {k : List Fr} {Q : Exit → AS → Prop} {ios : List Opr} {n nx ck : Nat} {mk : List (Nat × Nat)} {md : Md} {l : List (Nat × AV)} {hp : List (Nat × Nat × AObj)}
theorem o_ext {d : Option Nat} {op : IOp} (Fk : AS → AV → Prop) (hs : ∀ rd g, Stp P w0 N0 rd ⟨d, op, g⟩ (st n l hp nx ck mk) Fk) (hd : ∀ S1 v, Fk S1 v → S1.size = n) (go : ∀ S1 v, Fk S1 v → Om P w0 N0 md (KnP P w0 N0) ios (S1.put d v) k Q) : Om P w0 N0 md (KnP P w0 N0) (⟨d, op, none⟩ :: ios) (st n l hp nx ck mk) k Q :=
 ⟨fun ha => .ext rfl hs (fun S1 v hF => by
  have h1 : zcj (st n l hp nx ck mk).size d = true := (all_cons ha).1
  rw [hd S1 v hF]
  exact h1) fun S1 v hF => (go S1 v hF).ok (by
  have h2 := (all_cons ha).2
  have e : (S1.put d v).size = n := by cases d <;> exact hd S1 v hF
  rw [e]
  exact h2)⟩
end
section
variable {P : Program} {w0 : World} {N0 : Nat} {S S' : AS} {K : AS → Prop} {k : List Fr} {Q : Exit → AS → Prop} {ios : List Opr} {n nx ck nx' ck' : Nat} {mk : List (Nat × Nat)} {md : Md} {l l' : List (Nat × AV)} {hp hp' : List (Nat × Nat × AObj)}
theorem Stp_sub {rd : Option (Nat × Nat)} {io : Opr} {Fk : AS → AV → Prop} (hs : Sub w0 N0 S S') (h : Stp P w0 N0 rd io S' Fk) : Stp P w0 N0 rd io S Fk := fun ops o hc n I a w r next Qc hR ho hk => by
 obtain ⟨I1, h1, h2⟩ := hs I a w hR
 exact h ops o hc n I1 a w r next Qc h1 (ho.evo h2) fun I' S1 v u w' hF hR' hV hE => hk I' S1 v u w' hF hR' hV (h2.trans hE)
theorem X_head {io : Opr} (hg : io.guard = none) (h : X (KnP P w0 N0) (io :: ios) S K) : ∃ Fk : AS → AV → Prop, (∀ rd g, Stp P w0 N0 rd ⟨io.dst, io.op, g⟩ S Fk) ∧ (∀ S1 v, Fk S1 v → zcj S1.size io.dst = true) ∧ ∀ S1 v, Fk S1 v → X (KnP P w0 N0) ios (S1.put io.dst v) K := by
 cases h with
 | @op _ _ _ S1 v _ hw hi hx hd h =>
  exact ⟨_, fun rd g => zm8 (io := ⟨io.dst, io.op, g⟩) hi, fun S2 v2 hF => by rw [hF.1, (zq6 hi).1]; exact hd, fun S2 v2 hF => by rw [hF.1, hF.2]; exact h⟩
 | skip hw => rw [zay, hg] at hw; cases hw
 | @call _ _ _ v _ fa args fid first cap vs hw hop hf ha hp hfl hm hd h =>
  have hc : WpCall P w0 N0 S (.fn fid first cap) vs fun v' S' => v' = v ∧ S' = S := zlv hp hfl hm ⟨rfl, rfl⟩
  obtain ⟨Fk, hct, hk⟩ := hc.ok
  refine ⟨_, fun rd g => zm7 (io := ⟨io.dst, io.op, g⟩) hop hf ha hct fun v H hF => (hk v H hF).1, fun S2 v2 ⟨H, hF, e⟩ => ?_, fun S2 v2 ⟨H, hF, e⟩ => ?_⟩
  ·subst e; exact hd
  ·subst e
   obtain ⟨_, rfl, e2⟩ := hk v2 H hF
   rw [e2]
   exact h
 | ct hw hop hf ha hc hm hd h =>
  refine ⟨_, fun rd g => zm7 (io := ⟨io.dst, io.op, g⟩) hop hf ha hc hm, fun S2 v2 ⟨H, hF, e⟩ => ?_, fun S2 v2 ⟨H, hF, e⟩ => ?_⟩
  ·subst e; exact hd
  ·subst e; exact h v2 H hF
 | ext hw hs hd h => exact ⟨_, hs, hd, h⟩
theorem o_sub {d : Option Nat} {op : IOp} (hs : Sub w0 N0 (st n l hp nx ck mk) (st n l' hp' nx' ck' mk)) (h : Om P w0 N0 md (KnP P w0 N0) (⟨d, op, none⟩ :: ios) (st n l' hp' nx' ck' mk) k Q) : Om P w0 N0 md (KnP P w0 N0) (⟨d, op, none⟩ :: ios) (st n l hp nx ck mk) k Q :=
 ⟨fun ha => by
  obtain ⟨Fk, h1, h2, h3⟩ := X_head rfl (h.ok ha)
  exact .ext rfl (fun rd g => Stp_sub hs (h1 rd g)) h2 h3⟩
theorem zop {d : Option Nat} {op : IOp} {cs : List AV} (id sp : Nat) (l' : List (Nat × AV)) (hk : look id hp = some (sp, .cells cs)) (hM : hasM.hasML cs = false) (h2 : RnT id sp cs l l') (h : Om P w0 N0 md (KnP P w0 N0) (⟨d, op, none⟩ :: ios) (st n l' (zbe id hp) nx ck mk) k Q) : Om P w0 N0 md (KnP P w0 N0) (⟨d, op, none⟩ :: ios) (st n l hp nx ck mk) k Q :=
 o_sub (znb hk hM h2) h
theorem RenF.fms1 {id sp : Nat} {len : Nat} {cap : Option Nat} {vs : List AV} (h : vs.length = len) : RenF id sp vs (.ms id sp 1 0 len cap) (.vs (vs.map fun v => [v])) :=
 .fms (by rw [y09]; exact h) (fun x hx => by obtain ⟨v, _, rfl⟩ := y0o.1 hx; rfl) ⟨[], by
  rw [y14, y0p]
  clear h
  induction vs with
  | nil => rfl
  | cons v vs ih => simpa using ih⟩
theorem o_slsl {pf : Kn} {d sz : Nat} {ax : Arg} {al ah : Option Arg} {id sp off len : Nat} {cap : Option Nat} {lv hv : Option AV} {lo hh : Int} (hx : zbt ax l = some (.ms id sp sz off len cap)) (h1 : zvl al l = some lv) (h2 : zct lv 0 = some lo) (h3 : zvl ah l = some hv) (h4 : zct hv len = some hh)
  (b0 : 0 ≤ lo) (b1 : lo ≤ hh) (b2 : hh ≤ len) (go : Om P w0 N0 md pf ios (st n ((d, .ms id sp sz (off + lo.toNat * sz) (hh.toNat - lo.toNat) (cap.map (· - lo.toNat))) :: l) hp nx ck mk) k Q) :
  Om P w0 N0 md pf (⟨some d, .slsl sz ax al ah none, none⟩ :: ios) (st n l hp nx ck mk) k Q := by
 have hi : iop (st n l hp nx ck mk) (.slsl sz ax al ah none) = some (.ms id sp sz (off + lo.toNat * sz) (hh.toNat - lo.toNat) (cap.map (· - lo.toNat)), st n l hp nx ck mk) := by
  have e1 : (st n l hp nx ck mk).oarg al = some lv := (zos al).trans h1
  have e3 : (st n l hp nx ck mk).oarg ah = some hv := (zos ah).trans h3
  have e5 : (st n l hp nx ck mk).oarg none = some none := rfl
  simp only [iop, zbi, hx, e1, e3, e5]
  unfold zvv
  simp only [h2, h4]
  rw [if_pos ⟨trivial, b0, b1, b2⟩]
  rfl
 exact zg6 hi go
theorem zd7 {sz : Nat} {id sp len : Nat} {cap : Option Nat} {xs : List (List AV)} {ys : List AV} (h : look id hp = some (sp, .cells (xs.flatten ++ ys))) (hl : xs.length = len) (hs : ∀ x ∈ xs, x.length = sz) : (st n l hp nx ck mk).elems sz (.ms id sp sz 0 len cap) = some xs := by
 subst hl
 have hf := zhg hs
 simp only [AS.elems, show (st n l hp nx ck mk).heap = hp from rfl, h]
 rw [if_pos ⟨trivial, trivial, by rw [y0j, hf]; omega⟩, y14]
 congr 1
 have : ∀ (xs : List (List AV)), (∀ x ∈ xs, x.length = sz) → zdf sz xs.length (xs.flatten ++ ys) = xs := by
  intro xs
  induction xs with
  | nil => intro _; rfl
  | cons x xs ih =>
   intro hs
   have hx := hs x (y05 ..)
   simp only [y0n, zdf, y1n, y1j]
   rw [List.take_append_of_le_length (by omega), ← hx, y2a, List.drop_left, hx, ih fun y hy => hs y (y04 _ hy)]
 exact this xs hs
end
def isBs : IOp → Bool
 | .bslice .. => true
 | _ => false
theorem zq9 {P : Program} : ∀ {l : List (FuncId × List AV × AV)}, (∀ x ∈ l, PFn P x.1 x.2.1 x.2.2) → ∀ f args v, zdx l f args = some v → PFn P f args v
 | [], _, f, args, v, h => by cases h
 | (g, as, u) :: l, hl, f, args, v, h => by
  simp only [zdx] at h
  split at h
  ·rename_i hc
   obtain ⟨rfl, rfl⟩ := hc
   simp only [y00] at h; subst h
   exact hl _ (y05 ..)
  ·exact zq9 (fun x hx => hl x (y04 _ hx)) f args v h
section
variable {P : Program} {w0 : World} {N0 : Nat} {S : AS} {K : AS → Prop} {E : Env} {fz : Fz} {la : Bool}
end
section
variable {P : Program} {w0 : World} {N0 : Nat} {S : AS} {k : List Fr} {Q : Exit → AS → Prop} {ios : List Opr} {n nx ck : Nat} {mk : List (Nat × Nat)} {md : Md} {l : List (Nat × AV)} {hp : List (Nat × Nat × AObj)} {fz : Fz} {la : Bool} {lk : FuncId → List AV → Option AV}
theorem Stp_fsl {rd : Option (Nat × Nat)} {S : AS} {d : Option Nat} {op : IOp} {g : Option (Nat × Bool)} {v : AV} (h : fsl S op = some v) : Stp P w0 N0 rd ⟨d, op, g⟩ S fun S1 v1 => S1 = S ∧ v1 = v := by
 cases op <;> simp only [fsl, reduceCtorEq] at h
 rename_i sz len z ps
 intro ops o hc n I a w r next Qc hRel ho hk
 refine ⟨fun _ _ => trivial, ?_⟩
 show o.uponIn (Wd r) n P a next Qc ((o.semAt r a.eval).run P w)
 have hcop := zmi hc (by simp)
 rw [Oper.semAt_eq r a.eval o (zfj hcop)]
 obtain ⟨t, e, z0, parts, hop, hu, hs, hz, c0, c1, c2, rfl, hp⟩ := zmq hcop
 obtain ⟨u, w', I', hrun, hv, hR', hE'⟩ := zum hRel hu hs hz c0 c1 c2 hp h
 have he : (execOp a.eval o).run P w = .ok (.value u) w' := exec_v (by simp only [execOp, hop]) hrun
 rw [he]
 exact hk I' S v u w' ⟨rfl, rfl⟩ hR' hv hE'
theorem zm1 {d sz len : Nat} {z cs : List AV} {ps : List (Nat × Nat × Arg)} {pl : List (Nat × AV)} (es : List (List AV)) (h : zfl ps l = some pl) (hf : zcb z pl = some cs) (hM : hasM.hasML cs = false) (he : zdf sz len cs = es)
  (go : Om P w0 N0 md (KnP P w0 N0) ios (st n ((d, .vs es) :: l) hp nx ck mk) k Q) : Om P w0 N0 md (KnP P w0 N0) (⟨some d, (.bslice sz len z ps), none⟩ :: ios) (st n l hp nx ck mk) k Q :=
 o_ext _ (fun _ _ => Stp_fsl (v := .vs es) (by simp only [fsl, zig, h, hf, hM, if_true, he])) (fun S1 v hF => by rw [hF.1]; rfl) fun S1 v hF => by
  obtain ⟨rfl, rfl⟩ := hF
  exact go
end
structure OwnR (S : AS) (v0 : AV) (xs : List (List AV)) : Prop where
 ok : ∃ id sp sz cap cs ys, v0 = .ms id sp sz 0 xs.length cap ∧ look id S.heap = some (sp, .cells cs) ∧ flat.flatL cs = true ∧ (∀ x ∈ xs, x.length = sz) ∧ cs = xs.flatten ++ ys
theorem zh0 : ∀ l : List Int, flat.flatL (l.map (AV.int .i64)) = true
 | [] => rfl
 | z :: l => by simp only [y1h, flat.flatL, zh0 l]; rfl
theorem OwnR.ints {S : AS} {id sp len : Nat} {cap : Option Nat} (l : List Int) (hl : l.length = len) (h : look id S.heap = some (sp, .cells (l.map (AV.int .i64)))) : OwnR S (.ms id sp 1 0 len cap) (l.map fun z => [.int .i64 z]) :=
 ⟨id, sp, 1, cap, _, [], by rw [y09, hl], h, zh0 l, fun x hx => by obtain ⟨z, _, rfl⟩ := y0o.1 hx; rfl, by
  rw [y0p]
  clear h hl
  induction l with
  | nil => rfl
  | cons z l ih => simpa using ih⟩
end Go.Am
