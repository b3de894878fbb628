/-
  AN ABSTRACT MACHINE FOR PROOFS, PART 11. A general base for proofs: no program is named here.
-/
import Derived.Test.YtdolbghhcijonaaGreatNA10
import Derived.Lib.SmallJoins
import Derived.Sort.Grow
import Derived.Lib.SlicesCompact
namespace Go.Am
open Go Go.RowKit
def srt (zs : List Int) : List Int := zs.mergeSort fun x y => decide (x <= y)
theorem zfc (zs : List Int) : (srt zs).length = zs.length := List.length_mergeSort ..
theorem arr1 {α : Type} {cs : Array α} (h : cs.size = 1) : ∃ c0, cs = #[c0] := by
 obtain ⟨l⟩ := cs
 match l, h with
 | [c0], _ => exact ⟨c0, rfl⟩
def Sorts (P : Program) (f : FuncId) : Prop := ∀ (blk off cap : Nat) (zs : List Int) (w : World), Go.Sort.Holds (Value.int .i64) w blk off zs.toArray -> blk < w.heap.size -> zs.length < 4611686018427387904 ->
 Calls P f #[.slice (some ⟨blk, off, none⟩) zs.length cap] w fun e w' => e = .returned (.tuple #[]) /\ ∃ n os, w' = Go.Sort.grow (Go.Sort.putRow (Value.int .i64) (Go.Sort.ahead w n) blk off (srt zs).toArray) os
theorem zwm {w0 w : World} {N0 id sp next b base n : Nat} {I : LI} {hp : List (Nat × Nat × AObj)} {zs ys : List Int} (hr : HRel w0 N0 I hp next w) (hl : look id hp = some (sp, .cells (zs.map (AV.int .i64)))) (hloc : I.loc id sp = some (.at b base n)) (hlen : ys.length = zs.length) (m : Nat) (os : Array Obj) :
  HRel w0 N0 I (zap id (sp, .cells (ys.map (AV.int .i64))) hp) next (Go.Sort.grow (Go.Sort.putRow (Value.int .i64) (Go.Sort.ahead w m) b (base + 0) ys.toArray) os) /\ Evo I w I (Go.Sort.grow (Go.Sort.putRow (Value.int .i64) (Go.Sort.ahead w m) b (base + 0) ys.toArray) os) := by
 obtain ⟨hst, l, hloc2, hO⟩ := hr.heap id sp _ hl;rw [hloc] at hloc2;injection hloc2 with hloc2;subst hloc2;obtain ⟨cs, elem, hb, hn, hle, hv⟩ := hO;rw [y06] at hle;obtain ⟨r1, e1⟩ := hr.below' (w' := Go.Sort.ahead w m) ⟨rfl, rfl, rfl, y08 _, fun _ _ => rfl⟩;have hmod : ∀ k, (Go.Sort.putRow (Value.int .i64) (Go.Sort.ahead w m) b (base + 0) ys.toArray).heap[k]? = if b = k then (w.heap[k]?).map (Go.Sort.onCells (Go.Sort.putCells (Value.int .i64) (base + 0) ys.toArray)) else w.heap[k]? := fun k => by
  unfold Go.Sort.putRow Go.Sort.mapBlock;simp only [Array.getElem?_modify];rfl
 obtain ⟨r2, e2⟩ := r1.write (w' := Go.Sort.putRow (Value.int .i64) (Go.Sort.ahead w m) b (base + 0) ys.toArray) (o' := .cells (ys.map (AV.int .i64)))
  ⟨rfl, rfl, rfl, by rw [Go.Sort.size_putRow]; exact y08 _, fun k hk => by
   have := hr.fresh id sp b base n hloc;rw [hmod, if_neg (by omega)];rfl⟩ hloc hl (fun k hk => by rw [hmod, if_neg fun e => hk e.symm]; rfl) (fun _ => by
   refine ⟨Go.Sort.putCells (Value.int .i64) (base + 0) ys.toArray cs, elem, by rw [hmod, if_pos rfl, hb]; rfl, by unfold Go.Sort.putCells; rw [Array.size_mapIdx]; exact hn, by rw [y06, hlen]; exact hle, fun i x hx => ?_⟩;rw [y0n] at hx;have hi : i < ys.length := by
    refine Nat.lt_of_not_le fun h => ?_;rw [List.getElem?_eq_none h] at hx;cases hx
   rw [y0d hi] at hx;injection hx with hx;subst hx;have h3 : base + i < cs.size := by omega
   have : (Go.Sort.putCells (Value.int .i64) (base + 0) ys.toArray cs).getD (base + i) undef = .int .i64 ys[i] := by
    unfold Go.Sort.putCells;rw [y02, Array.getElem?_mapIdx, y17 h3];simp only [Option.map_some, y1p, y2e];rw [if_pos ⟨Nat.le_add_right .., by simp; exact hi⟩];have e4 : base + i - base = i := by omega
    rw [e4];simp [hi]
   rw [this];exact .int)
 obtain ⟨r3, e3⟩ := r2.below' (w' := Go.Sort.grow (Go.Sort.putRow (Value.int .i64) (Go.Sort.ahead w m) b (base + 0) ys.toArray) os) ⟨rfl, rfl, rfl, by rw [Go.Sort.size_grow]; exact Nat.le_add_right .., fun k hk => Go.Sort.heap_grow_old _ _ hk⟩;exact ⟨r3, (e1.trans e2).trans e3⟩
theorem zrg {w0 w : World} {N0 id sp next b base n : Nat} {I : LI} {hp : List (Nat × Nat × AObj)} {zs : List Int} (hr : HRel w0 N0 I hp next w) (hl : look id hp = some (sp, .cells (zs.map (AV.int .i64)))) (hloc : I.loc id sp = some (.at b base n)) :
  Go.Sort.Holds (Value.int .i64) w b (base + 0) zs.toArray /\ b < w.heap.size := by
 obtain ⟨hst, l, hloc2, hO⟩ := hr.heap id sp _ hl;rw [hloc] at hloc2;injection hloc2 with hloc2;subst hloc2;obtain ⟨cs, elem, hb, hn, hle, hv⟩ := hO;rw [y06] at hle;have hcell : ∀ j (hj : j < zs.length), cs[base + j]? = some (.int .i64 zs[j]) := fun j hj => by
  have h1 := hv j (.int .i64 zs[j]) (by rw [y0n, y0d hj]; rfl);have h2 : base + j < cs.size := by omega
  rw [y02, y17 h2, y1p] at h1;rw [y17 h2];generalize cs[base + j] = y at h1;cases h1;rfl
 refine ⟨fun j hj => ?_, (y0e.1 hb).1⟩;have hj : j < zs.length := by simpa using hj
 refine ⟨?_, ?_⟩
 ·show World.cell? _ _ = _;simp only [World.cell?, hb];rw [y2e, hcell j hj];simp [hj]
 ·simp [World.frozen?, hb]
theorem zu8 {w0 w : World} {N0 id sp next len : Nat} {cap : Option Nat} {I : LI} {hp : List (Nat × Nat × AObj)} {zs : List Int} {us : Array Value} (hr : HRel w0 N0 I hp next w) (hl : look id hp = some (sp, .cells (zs.map (AV.int .i64)))) (hne : zs ≠ []) (hlen : len = zs.length) (hc : CRel w I.ro (some I) [.ms id sp 1 0 len cap] us) :
  ∃ b base n c, I.loc id sp = some (.at b base n) /\ us = #[.slice (some ⟨b, base + 0, none⟩) zs.length c] /\ zs.length <= c /\ (∀ k, cap = some k -> c = k) /\ (cap = none -> base + 0 + c * 1 = n) /\ sp < I.clk := by
 subst hlen;obtain ⟨hl1, hr1⟩ := hc;obtain ⟨u0, rfl⟩ := arr1 hl1;have h0 := hr1 0 _ rfl;simp only [y02] at h0;generalize he0 : ((#[u0] : Array Value)[0]?).getD undef = x0 at h0;cases h0 with
 | @ms _ _ _ _ _ _ _ p c hlc hp hcap hcl =>
 simp at he0;subst he0;obtain ⟨J, hJ, c1, c2, _⟩ := hcl;injection hJ with hJ;subst hJ;obtain ⟨hst, l, hloc, hO⟩ := hr.heap id sp _ hl;have hpos : 0 < zs.length := List.length_pos_iff.2 hne;cases l with
 | void => exact absurd (List.map_eq_nil_iff.1 hO) hne
 | «at» b base n =>
 obtain ⟨rfl, h9⟩ := (c2 b base n hloc).resolve_left (by omega);exact ⟨b, base, n, c, hloc, rfl, hlc, hcap, h9, c1⟩
theorem ztq {P : Program} {w0 : World} {N0 f id sp : Nat} {cap : Option Nat} {zs : List Int} {H : HS} (he : Ent P f) (hs : Sorts P f) (hne : zs ≠ []) (hz : zs.length <= 1048576) (hl : look id H.heap = some (sp, .cells (zs.map (AV.int .i64)))) :
  FT P w0 N0 f [.ms id sp 1 0 zs.length cap] H fun v H' => v = .tup [] /\ H' = ⟨zap id (sp, .cells ((srt zs).map (AV.int .i64))) H.heap, H.next, H.clk⟩ := by
 refine ⟨he, fun I w us hr hclk hc => ?_⟩;obtain ⟨b, base, n, c, hloc, rfl, _⟩ := zu8 hr hl hne rfl hc;obtain ⟨hH, hblt⟩ := zrg hr hl hloc;refine (hs b (base + 0) c zs w hH hblt (by omega)).mono fun e w' ⟨h1, m, os, h2⟩ => ?_;subst h2;obtain ⟨r, e⟩ := zwm hr hl hloc (ys := srt zs) (zfc zs) m os;exact ⟨_, _, _, I, h1, ⟨rfl, rfl⟩, r, hclk, .tup rfl (fun i x hx => by cases hx), e⟩
def cps (zs : List Int) : List Int := Lib.compact zs
def Cpts (P : Program) (f : FuncId) : Prop := ∀ (blk off cap : Nat) (zs : List Int) (w : World), Go.Sort.Holds (Value.int .i64) w blk off zs.toArray -> zs.length <= 9223372036854775807 -> zs.length <= cap ->
 Calls P f #[.slice (some ⟨blk, off, none⟩) zs.length cap] w fun e w' => e = .returned (.slice (some ⟨blk, off, none⟩) (cps zs).length cap) /\ ∃ q, w' = Go.Sort.putRow (Value.int .i64) (Go.Sort.ahead w q) blk off (cps zs ++ List.replicate (zs.length - (cps zs).length) 0).toArray
theorem zpp (zs : List Int) : (cps zs).length <= zs.length := by
 unfold cps Lib.compact Lib.compactUpTo;rw [y06];refine y0u (List.length_filter_le ..) ?_;rw [y1v];exact y08 _
theorem zl9 {P : Program} {w0 : World} {N0 f id sp : Nat} {cap : Option Nat} {zs : List Int} {H : HS} (he : Ent P f) (hs : Cpts P f) (hne : zs ≠ []) (hz : zs.length <= 1048576) (hl : look id H.heap = some (sp, .cells (zs.map (AV.int .i64)))) :
  FT P w0 N0 f [.ms id sp 1 0 zs.length cap] H fun v H' => v = .ms id sp 1 0 (cps zs).length cap /\ H' = ⟨zap id (sp, .cells ((cps zs ++ List.replicate (zs.length - (cps zs).length) 0).map (AV.int .i64))) H.heap, H.next, H.clk⟩ := by
 refine ⟨he, fun I w us hr hclk hc => ?_⟩;obtain ⟨b, base, n, c, hloc, rfl, hlc, hcap, h9, c1⟩ := zu8 hr hl hne rfl hc;obtain ⟨hH, hblt⟩ := zrg hr hl hloc;refine (hs b (base + 0) c zs w hH (by omega) hlc).mono fun e w' ⟨h1, m, h2⟩ => ?_;have hcl := zpp zs;obtain ⟨r, e⟩ := zwm hr hl hloc (ys := cps zs ++ List.replicate (zs.length - (cps zs).length) 0) (by rw [y0l, y27]; omega) m #[];rw [Go.Sort.grow_empty, <- h2] at r e;refine ⟨_, _, _, I, h1, ⟨rfl, rfl⟩, r, hclk, .ms (by omega) (fun _ => ⟨_, rfl⟩) hcap ⟨I, rfl, c1, fun b' base' n' hb => ?_, fun hb => ?_⟩, e⟩
 ·rw [hloc] at hb;injection hb with hb;injection hb with h1 h2 h3;subst h1 h2 h3;exact .inr ⟨rfl, h9⟩
 ·rw [hloc] at hb;injection hb with hb;cases hb
def zr6 : Int -> List Int -> List Int
 | _, [] => []
 | p, y :: l => if y = p then zr6 p l else y :: zr6 y l
def cpt : List Int -> List Int
 | [] => []
 | x :: l => x :: zr6 x l
theorem zjo (x : Int) : ∀ (l : List Int) (p : Int), zr6 p (l ++ [x]) = zr6 p l ++ (if (p :: l).getLast (by simp) = x then [] else [x])
 | [], p => by
  rw [y1y, zr6, zr6, zr6, y1y];show (if x = p then [] else [x]) = if p = x then [] else [x]
  by_cases h : x = p
  ·rw [if_pos h, if_pos h.symm]
  ·rw [if_neg h, if_neg fun e => h e.symm]
 | y :: l, p => by
  rw [List.cons_append, zr6, zr6, List.getLast_cons (by simp)];split
  ·rename_i e;subst e;exact zjo x l y
  ·rw [zjo x l y];rfl
theorem cps_eq (zs : List Int) : cps zs = cpt zs := by
 have key : ∀ m, m <= zs.length -> Lib.compactUpTo zs.toArray m = cpt (zs.take m) := by
  intro m
  induction m with
  | zero => intro _; rw [List.take_zero]; rfl
  | succ m ih =>
   intro hm;rw [Lib.compactUpTo_succ, ih (by omega), List.take_add_one, y0d (by omega)];have hg : zs.toArray[m]! = zs[m] := by simp [show m < zs.length by omega]
   rw [hg];cases m with
   | zero => rw [List.take_zero]; rfl
   | succ k =>
    obtain ⟨x, t, hx⟩ : ∃ x t, zs.take (k + 1) = x :: t := by
     cases hz : zs.take (k + 1) with
     | nil =>
      have := congrArg List.length hz;rw [List.length_take, List.length_nil] at this;omega
     | cons x t => exact ⟨x, t, rfl⟩
    have hlast : (x :: t).getLast (by simp) = zs[k] := by
     have e1 : (x :: t).length = k + 1 := by rw [<- hx, List.length_take]; omega
     rw [List.getLast_eq_getElem];have : ∀ (h : (x :: t).length - 1 < (x :: t).length), (x :: t)[(x :: t).length - 1] = zs[k] := by
      rw [<- hx];intro h;rw [List.getElem_take];congr 1;rw [List.length_take];omega
     exact this _
    have hk : Lib.keeps zs.toArray (k + 1) = decide (zs[k + 1] ≠ zs[k]) := by
     unfold Lib.keeps;have h1 : zs.toArray[k + 1]! = zs[k + 1] := by simp [show k + 1 < zs.length by omega]
     have h2 : zs.toArray[k + 1 - 1]! = zs[k] := by simp [show k < zs.length by omega]
     rw [h1, h2];simp
    rw [hx, hk];show cpt (x :: t) ++ _ = cpt (x :: t ++ [zs[k + 1]]);rw [List.cons_append, cpt, cpt, zjo, hlast, List.cons_append];congr 2;by_cases e : zs[k] = zs[k + 1]
    ·rw [if_pos e, if_neg (by simp [e])]
    ·rw [if_neg e, if_pos (by simp; exact fun h => e h.symm)]
 have := key zs.length (y08 _);rw [y1t] at this;exact this
section
variable {P : Program} {w0 : World} {N0 : Nat}
end
end Go.Am
