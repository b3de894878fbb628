/-
  AN ABSTRACT MACHINE FOR PROOFS, PART 2. A general base for proofs: no program is named here.
-/
import Derived.Test.YtdolbghhcijonaaGreatNA1
import Derived.MapKept
import Derived.RangeFuncRecord
import Derived.Lib.Builder
import Derived.Lib.UnsafeStr
import Derived.LaidEqlPtr
import Derived.Laws.Externs
import Derived.KernelRfl
namespace Go.Am
open Go Go.RowKit
theorem zbm (b off n : Nat) : (⟨b, off, none⟩ : Addr).add n = ⟨b, off + n, none⟩ := by
 unfold Addr.add; split <;> simp_all
section
variable {P : Program} {w0 w : World} {N0 : Nat} {I : LI} {S S' : AS} {a : Act} {io : IOp} {v : AV}
def OInt (o : Option Value) (d l : Int) : Prop := (o = none /\ l = d) \/ ∃ k, o = some (.int k l)
theorem zt6 (h : Rel w0 N0 I S a w) {lo : Option Operand} {al : Option Arg} {lv : Option AV} {d l : Int} (h1 : zpn lo = some al) (h2 : S.oarg al = some lv) (h3 : zdc lv d = some l) :
  OInt (lo.map a.eval) d l /\ (lv = none ↔ lo = none) := by
 cases lo with
 | none =>
  simp [zpn] at h1; subst h1;simp [AS.oarg] at h2; subst h2;simp [zdc] at h3; subst h3;exact ⟨.inl ⟨rfl, rfl⟩, by simp⟩
 | some x =>
  simp only [zpn, y03] at h1;obtain ⟨ar, har, rfl⟩ := h1;simp only [AS.oarg, y03] at h2;obtain ⟨xv, hx, rfl⟩ := h2;have hr := h.arg har hx;cases xv <;> simp only [zdc, y00, reduceCtorEq] at h3
  subst h3;generalize he : a.eval x = u at hr;cases hr;exact ⟨.inr ⟨_, by simp [he]; rfl⟩, by simp⟩
theorem zhk {x : Value} {k : IntKind} {i : Int} {y : Nat} {code : BoundsCode} (hx : x = .int k i) (h0 : 0 <= i) (h1 : i <= y) : (Instr.sliceBound x y code).run P w = .ok i.toNat w := by
 subst hx; simp [Instr.sliceBound, asIntOf, h0, h1]
theorem zgw {isSlice : Bool} {len cap : Nat} {lo hi : Option Value} {l h : Int} (hlo : OInt lo 0 l) (hhi : OInt hi len h) (h0 : 0 <= l) (h1 : l <= h) (h2 : h <= cap) :
  (Instr.sliceBounds isSlice len cap lo hi none).run P w = .ok (l.toNat, h.toNat, cap) w := by
 have e : ((h.toNat : Nat) : Int) = h := Int.toNat_of_nonneg (by omega);rcases hlo with ⟨rfl, rfl⟩ | ⟨kl, rfl⟩ <;> rcases hhi with ⟨rfl, rfl⟩ | ⟨kh, rfl⟩
 ·simp [Instr.sliceBounds]
 ·simp [Instr.sliceBounds, zhk (P := P) (w := w) rfl (by omega : 0 <= h) h2]
 ·simp [Instr.sliceBounds, zhk (P := P) (w := w) rfl h0 h1]
 ·simp [Instr.sliceBounds, zhk (P := P) (w := w) rfl (by omega : 0 <= h) h2, zhk (P := P) (w := w) rfl h0 (by omega : l <= ((h.toNat : Nat) : Int))]
theorem zqc {len cap : Nat} {lo hi : Option Value} {k : IntKind} (hlo : OInt lo 0 0) (hhi : ∃ kh, hi = some (.int kh 0)) :
  (Instr.sliceBounds true len cap lo hi (some (.int k 0))).run P w = .ok (0, 0, 0) w := by
 obtain ⟨kh, rfl⟩ := hhi;rcases hlo with ⟨rfl, _⟩ | ⟨kl, rfl⟩
 ·simp [Instr.sliceBounds, Instr.sliceBound, asIntOf]
 ·simp [Instr.sliceBounds, Instr.sliceBound, asIntOf]
theorem s_slsl (h : Rel w0 N0 I S a w) {t e : TypeId} {x : Operand} {lo hi mx : Option Operand} {sz : Nat} {ax : Arg} {al ah am : Option Arg} (hu : P.underlying t = some (.slice e)) (hs : sizeOf? P e = some sz)
  (hx : za1 x = some ax) (hl : zpn lo = some al) (hh : zpn hi = some ah) (hm : zpn mx = some am) (hmh : mx.isSome = true -> hi.isSome = true) (hr : iop S (.slsl sz ax al ah am) = some (v, S')) :
  ∃ u, (Instr.sliceAt t (a.eval x) (lo.map a.eval) (hi.map a.eval) (mx.map a.eval)).run P w = .ok u w /\ VRel w I.ro (some I) v u /\ S' = S := by
 simp only [iop] at hr;split at hr
 ·rename_i xv lv hv mv hxv hlv hhv hmv;simp only [y03, y0b] at hr;obtain ⟨r, hr, rfl, rfl⟩ := hr;have hX := h.arg hx hxv;generalize a.eval x = xu at hX
  -- the machine's way, once the bounds are known
  have run2 : ∀ (p : Option Addr) (len c : Nat) (l hh' : Int), xu = .slice p len c -> mx = none -> OInt (lo.map a.eval) 0 l -> OInt (hi.map a.eval) len hh' -> 0 <= l -> l <= hh' -> hh' <= c ->
    (Instr.sliceAt t xu (lo.map a.eval) (hi.map a.eval) (mx.map a.eval)).run P w = .ok (.slice (if c = l.toNat then p else p.map (·.add (l.toNat * sz))) (hh'.toNat - l.toNat) (c - l.toNat)) w := by
   intro p len c l hh' e1 e2 o1 o2 b0 b1 b2;subst e1 e2;simp [Instr.sliceAt, Instr.slice, za2 hu, zgw o1 o2 b0 b1 b2, zc0 hs]
  have run3 : ∀ (p : Option Addr) (len c : Nat) (k : IntKind), xu = .slice p len c -> (mx.map a.eval) = some (.int k 0) -> OInt (lo.map a.eval) 0 0 -> (∃ kh, hi.map a.eval = some (.int kh 0)) ->
    (Instr.sliceAt t xu (lo.map a.eval) (hi.map a.eval) (mx.map a.eval)).run P w = .ok (.slice p 0 0) w := by
   intro p len c k e1 e2 o1 o2;subst e1;rw [e2];simp [Instr.sliceAt, Instr.slice, za2 hu, zqc o1 o2, zc0 hs]
  have mxn : mv = none -> mx = none := by
   intro e; subst e;cases mx with
   | none => rfl
   | some y =>
    simp only [zpn, y03] at hm;obtain ⟨ar, har, rfl⟩ := hm;simp [AS.oarg] at hmv
  have mxs : ∀ k m, mv = some (.int k m) -> ∃ k', mx.map a.eval = some (.int k' m) := by
   intro k m e; subst e;have := (zt6 h (d := 0) (l := m) hm hmv (by simp [zdc])).1;rcases this with ⟨e1, _⟩ | h'
   ·cases mx with
    | none => simp [zpn] at hm; subst hm; simp [AS.oarg] at hmv
    | some y => simp at e1
   ·exact h'
  have three : ∀ (p : Option Addr) (len c : Nat) (l hh' : Int) (k : IntKind) (m : Int), xu = .slice p len c -> mv = some (.int k m) -> zdc lv 0 = some l -> zdc hv len = some hh' -> l = 0 /\ hh' = 0 /\ m = 0 ->
    ∃ u, (Instr.sliceAt t xu (lo.map a.eval) (hi.map a.eval) (mx.map a.eval)).run P w = .ok u w /\ VRel w I.ro (some I) .nils u := by
   intro p len c l hh' k m e1 e2 o1 o2 ⟨z1, z2, z3⟩;subst z1 z2 z3;obtain ⟨k', hk'⟩ := mxs k 0 e2;refine ⟨_, run3 p len c k' e1 hk' (zt6 h hl hlv o1).1 ?_, .nils⟩;rcases (zt6 h hh hhv o2).1 with ⟨e3, _⟩ | h'
   ·have : mx.isSome = true := by cases mx <;> simp at hk' ⊢
    have := hmh this;cases hi <;> simp at e3 this
   ·exact h'
  unfold zx0 at hr;split at hr
  ·-- nils
   cases hX;rename_i p;split at hr
   ·rename_i l hh' m o1 o2 o3;split at hr
    ·rename_i hz;obtain ⟨z1, z2, z3⟩ := hz;subst z1 z2 z3;simp only [y00] at hr; subst hr;cases mv with
     | none =>
      refine ⟨_, run2 p 0 0 0 0 rfl (mxn rfl) (zt6 h hl hlv o1).1 (by simpa using (zt6 h hh hhv o2).1) (by omega) (by omega) (by simp), ?_, rfl⟩;simp; exact .nils
     | some y =>
      cases y <;> simp only [zdc, y00, reduceCtorEq] at o3
      subst o3;obtain ⟨u, e1, e2⟩ := three p 0 0 0 0 _ 0 rfl rfl o1 (by simpa using o2) ⟨rfl, rfl, rfl⟩;exact ⟨u, e1, e2, rfl⟩
    ·cases hr
   ·cases hr
  ·-- vs
   rename_i es;split at hr
   ·rename_i l hh' o1 o2;cases hX;rename_i p len c sz' b off us hc' hl' ha' hsz' hcc' hv';subst hl';split at hr
    ·split at hr
     ·rename_i hz;obtain ⟨b0, b1, b2, b3⟩ := hz;simp only [y00] at hr; subst hr;refine ⟨_, run2 p es.length c l hh' rfl (mxn rfl) (zt6 h hl hlv o1).1 (zt6 h hh hhv o2).1 b0 b1 (by omega), ?_, rfl⟩;have hszz : ∀ e ∈ es, e.length = sz := by
       intro e he;have := y0h.1 b3 e he;simpa using this
      have hlen : ((es.drop l.toNat).take (hh'.toNat - l.toNat)).length = hh'.toNat - l.toNat := by simp; omega
      have hget : ∀ i e, ((es.drop l.toNat).take (hh'.toNat - l.toNat))[i]? = some e -> es[l.toNat + i]? = some e := by
       intro i e hi;have hlt : i < hh'.toNat - l.toNat := by have := (y05.1 hi).1; omega
       rw [y13 hlt, y18] at hi;exact hi
      refine .vs (sz := sz) (b := b) (off := off + l.toNat * sz) (fun i j => us (l.toNat + i) j) hlen.symm (by omega) ?_ ?_ ?_ ?_
      ·intro hne;have hpos : 0 < hh'.toNat - l.toNat := by
        rcases Nat.eq_zero_or_pos (hh'.toNat - l.toNat) with h0 | h0
        ·rw [h0] at hne; simp at hne
        ·exact h0
       have hne' : es ≠ [] := by intro e0; subst e0; simp at b2; omega
       rw [if_neg (by omega), ha' hne'];simp [zbm]
      ·intro e he;exact hszz e (List.mem_of_mem_drop (List.mem_of_mem_take he))
      ·intro i j e x hi hj;have hge := hget i e hi;have he2 : sz' = sz := by rw [<- hsz' e (y0i hge), hszz e (y0i hge)]
       subst he2;have := hcc' _ j e x hge hj;rw [show off + l.toNat * sz' + i * sz' + j = off + (l.toNat + i) * sz' + j from by rw [y2o]; omega]
       exact this
      ·intro i j e x hi hj;exact hv' _ j e x (hget i e hi) hj
     ·cases hr
    ·rename_i k m;split at hr
     ·rename_i hz;simp only [y00] at hr; subst hr;obtain ⟨u, e1, e2⟩ := three p es.length c l hh' k m rfl rfl o1 o2 hz;exact ⟨u, e1, e2, rfl⟩
     ·cases hr
    ·cases hr
   ·cases hr
  ·-- ms
   rename_i id st sz' off len cap;split at hr
   ·rename_i l hh' o1 o2;cases hX;rename_i p c hp' hl' hcap' hcl';split at hr
    ·split at hr
     ·rename_i hz;obtain ⟨b0, b1, b2, b3⟩ := hz;subst b0;simp only [y00] at hr; subst hr;refine ⟨_, run2 p len c l hh' rfl (mxn rfl) (zt6 h hl hlv o1).1 (zt6 h hh hhv o2).1 b1 b2 (by omega), ?_, rfl⟩;have hlc : l.toNat <= c := by omega
      obtain ⟨J, hJ, c1, c2, c3⟩ := hcl';injection hJ with hJ; subst hJ;refine .ms (by omega) ?_ ?_ ⟨I, rfl, c1, fun b base n hb => ?_, fun hb => by have := c3 hb; omega⟩
      ·intro hpos;obtain ⟨q, rfl⟩ := hp' (by omega);rw [if_neg (by omega)];exact ⟨_, rfl⟩
      ·intro k hk;simp only [y03] at hk;obtain ⟨k', hk', rfl⟩ := hk;rw [hcap' k' hk']
      ·rcases Nat.eq_zero_or_pos (c - l.toNat) with h0 | h0
       ·exact .inl h0
       ·right;rcases c2 b base n hb with h00 | ⟨e1, e2⟩
        ·omega
        ·rw [if_neg (by omega), e1];refine ⟨by simp [zbm, y2b], fun hn => ?_⟩;have hn' : cap = none := by cases cap <;> simp at hn ⊢
         have := e2 hn';have hm : c * sz' = l.toNat * sz' + (c - l.toNat) * sz' := by rw [<- y2o]; congr 1; omega
         omega
     ·cases hr
    ·rename_i k m;split at hr
     ·rename_i hz;simp only [y00] at hr; subst hr;obtain ⟨u, e1, e2⟩ := three p len c l hh' k m rfl rfl o1 o2 hz;exact ⟨u, e1, e2, rfl⟩
     ·cases hr
    ·cases hr
   ·cases hr
  ·cases hr
 ·cases hr
end
section
variable {P : Program} {w0 w : World} {N0 : Nat} {I : LI} {S S' : AS} {a : Act} {io : IOp} {v : AV}
theorem s_slstr (h : Rel w0 N0 I S a w) {t : TypeId} {x : Operand} {lo hi : Option Operand} {ax : Arg} {al ah : Option Arg} (hu : P.underlying t = some .string)
  (hx : za1 x = some ax) (hl : zpn lo = some al) (hh : zpn hi = some ah) (hr : iop S (.slstr ax al ah) = some (v, S')) :
  ∃ u, (Instr.sliceAt t (a.eval x) (lo.map a.eval) (hi.map a.eval) none).run P w = .ok u w /\ VRel w I.ro (some I) v u /\ S' = S := by
 simp only [iop] at hr;split at hr
 ·rename_i s lv hv hxv hlv hhv;split at hr
  ·rename_i l hh' o1 o2;split at hr
   ·rename_i hz;simp only [y00, y0b] at hr;obtain ⟨rfl, rfl⟩ := hr;have hX := h.arg hx hxv;generalize a.eval x = xu at hX;cases hX;rename_i b;have e : b.size = b.data.toList.length := rfl;have r := zgw (P := P) (w := w) (isSlice := false) (len := b.size) (cap := b.size) (zt6 h hl hlv o1).1 (zt6 h hh hhv (by rw [e]; exact o2)).1 hz.1 hz.2.1 (by rw [e]; exact hz.2.2);refine ⟨.string (b.extract l.toNat hh'.toNat), by simp [Instr.sliceAt, Instr.slice, za2 hu, r], ?_, rfl⟩;have : (b.extract l.toNat hh'.toNat).data.toList = (b.data.toList.drop l.toNat).take (hh'.toNat - l.toNat) := by
     rw [ByteArray.data_extract, Array.toList_extract]
    rw [<- this];exact .str
   ·cases hr
  ·cases hr
 ·cases hr
theorem s_slarr (h : Rel w0 N0 I S a w) {t e : TypeId} {n sz : Nat} {x : Operand} {lo hi : Option Operand} {ax : Arg} {al ah : Option Arg} (hu : P.underlying t = some (.array n e)) (hs : sizeOf? P e = some sz)
  (hx : za1 x = some ax) (hl : zpn lo = some al) (hh : zpn hi = some ah) (hr : iop S (.slarr n sz ax al ah) = some (v, S')) :
  ∃ u, (Instr.sliceAt t (a.eval x) (lo.map a.eval) (hi.map a.eval) none).run P w = .ok u w /\ VRel w I.ro (some I) v u /\ S' = S := by
 simp only [iop] at hr;split at hr
 ·rename_i id st off lv hv hxv hlv hhv;split at hr
  ·rename_i l hh' o1 o2;split at hr
   ·rename_i hz;obtain ⟨b0, b1, b2⟩ := hz;simp only [y00, y0b] at hr;obtain ⟨rfl, rfl⟩ := hr;have hX := h.arg hx hxv;generalize a.eval x = xu at hX;cases hX with
    | mptr hk hcl =>
     obtain ⟨p, rfl⟩ := hk;have r := zgw (P := P) (w := w) (isSlice := false) (len := n) (cap := n) (zt6 h hl hlv o1).1 (zt6 h hh hhv o2).1 b0 b1 b2;refine ⟨.slice (some (if n = l.toNat then p else p.add (l.toNat * sz))) (hh'.toNat - l.toNat) (n - l.toNat), by simp [Instr.sliceAt, Instr.sureAddr, za2 hu, r, zc0 hs], ?_, rfl⟩;obtain ⟨J, hJ, c1, c0, c2⟩ := hcl;injection hJ with hJ; subst hJ;refine .ms (by omega) (fun _ => ⟨_, rfl⟩) (fun k hk => by injection hk) ⟨I, rfl, c1, fun b base n' hb => ?_, fun hb => absurd hb c0⟩;rcases Nat.eq_zero_or_pos (n - l.toNat) with h0 | h0
     ·exact .inl h0
     ·right;have := c2 b base n' hb;injection this with this; injection this with this; subst this;rw [if_neg (by omega)];exact ⟨by simp [zbm, y2b], fun hn => by cases hn⟩
   ·cases hr
  ·cases hr
 ·cases hr
theorem zpa {w : World} {ro : Nat -> Prop} {L : Option LI} {cs : List AV} {b off : Nat} (us : Nat -> Value) (hc : ∀ i x, cs[i]? = some x -> ro b /\ w.cell? ⟨b, off + i, none⟩ = some (us i))
  (hv : ∀ i x, cs[i]? = some x -> VRel w ro none x (us i)) (k : Nat) : VRel w ro L (.vptr (cs.drop k)) (.pointer (some ⟨b, off + k, none⟩)) := by
 refine .vptr (fun i => us (k + i)) (fun i x hx => ?_) (fun i x hx => ?_)
 ·rw [y18] at hx;rw [y2b];exact hc _ x hx
 ·rw [y18] at hx;exact hv _ x hx
theorem zrm {w : World} {ro : Nat -> Prop} {id st off k : Nat} {p : Addr} (h : VRel w ro (some I) (.mptr id st off) (.pointer (some p))) : VRel w ro (some I) (.mptr id st (off + k)) (.pointer (some (p.add k))) := by
 cases h with
 | mptr hk hcl =>
  obtain ⟨J, hJ, c1, c0, c2⟩ := hcl;injection hJ with hJ; subst hJ;refine .mptr ⟨_, rfl⟩ ⟨I, rfl, c1, c0, fun b base n hb => ?_⟩;have := c2 b base n hb;injection this with this; injection this with this; subst this;simp [zbm, y2b]
theorem s_faddr (h : Rel w0 N0 I S a w) {t : TypeId} {fs : Array Field} {f : Field} {i s : Nat} {x : Operand} {ax : Arg} (hu : P.underlying t = some (.struct fs)) (hf : fs[i]? = some f) (hs : sizeOf? P f.type = some s) (h0 : s ≠ 0)
  (hx : za1 x = some ax) (hr : iop S (.faddr f.offset ax) = some (v, S')) :
  ∃ u, (Instr.fieldAt t (a.eval x) i).run P w = .ok u w /\ VRel w I.ro (some I) v u /\ S' = S := by
 have run : ∀ p : Addr, a.eval x = .pointer (some p) -> (Instr.fieldAt t (a.eval x) i).run P w = .ok (.pointer (some (p.add f.offset))) w := by
  intro p e; rw [e];simp [Instr.fieldAt, za2 hu, hf, Instr.sureAddr, fieldPlace, zc0 hs, h0]
 simp only [iop] at hr;split at hr
 ·rename_i cs hxv;split at hr
  ·simp only [y00, y0b] at hr;obtain ⟨rfl, rfl⟩ := hr;have hX := h.arg hx hxv;generalize he : a.eval x = xu at hX;cases hX with
   | vptr us hc hv =>
    refine ⟨_, he ▸ run _ he, ?_, rfl⟩;rw [zbm];exact zpa us hc hv f.offset
  ·cases hr
 ·rename_i id st o hxv;simp only [y00, y0b] at hr;obtain ⟨rfl, rfl⟩ := hr;have hX := h.arg hx hxv;generalize he : a.eval x = xu at hX;obtain ⟨p, rfl⟩ : ∃ p, xu = .pointer (some p) := by cases hX with | mptr hk _ => exact hk
  exact ⟨_, he ▸ run _ he, zrm hX, rfl⟩
 ·cases hr
theorem s_field (h : Rel w0 N0 I S a w) {t : TypeId} {fs : Array Field} {f : Field} {i : Nat} {g : Option Nat} {x : Operand} {ax : Arg} (hu : P.underlying t = some (.struct fs)) (hf : fs[i]? = some f) (hg : zhu P f.type = some g)
  (hx : za1 x = some ax) (hr : iop S (.field f.offset g ax) = some (v, S')) :
  ∃ u, (Instr.field t (a.eval x) i).run P w = .ok u w /\ VRel w I.ro (some I) v u /\ S' = S := by
 simp only [iop] at hr;split at hr
 ·rename_i cs hxv;have hX := h.arg hx hxv;generalize a.eval x = xu at hX;cases hX with
  | @agg _ _ us h1 h2 =>
   obtain ⟨p1, p2⟩ := zic hg us f.offset w;have run : ∀ u, (part f.type us f.offset).run P w = .ok u w -> (Instr.field t (.agg us) i).run P w = .ok u w := by
    intro u e; simp [Instr.field, za2 hu, hf, asAgg, e]
   split at hr
   ·rename_i n;split at hr
    ·rename_i hle;simp only [y00, y0b] at hr;obtain ⟨rfl, rfl⟩ := hr;exact ⟨_, run _ (p1 n rfl), zqn h1 h2 hle, rfl⟩
    ·cases hr
   ·simp only [y03, y0b] at hr;obtain ⟨c, hc, rfl, rfl⟩ := hr;have e1 : us[f.offset]? = some (us.getD f.offset undef) := by
     have : f.offset < us.size := by rw [h1]; exact (y05.1 hc).1
     simp [y02, this]
    exact ⟨_, run _ (p2 _ rfl e1), h2 _ _ hc, rfl⟩
 ·cases hr
theorem zez {t e : TypeId} {sz : Nat} (hu : P.underlying t = some (.slice e)) (hs : sizeOf? P e = some sz) {q : Addr} {len c : Nat} {k : IntKind} {n : Int} (h0 : 0 <= n) (h1 : n < len) :
  (Instr.indexAt t (.slice (some q) len c) (.int k n)).run P w = .ok (.pointer (some (q.add (n.toNat * sz)))) w := by
 have : (0 <= n /\ n < (len : Int)) := ⟨h0, h1⟩
 simp [Instr.indexAt, asIntOf, za2 hu, zc0 hs, this]
theorem s_idxs (h : Rel w0 N0 I S a w) {t e : TypeId} {sz : Nat} {x i : Operand} {ax ai : Arg} (hu : P.underlying t = some (.slice e)) (hs : sizeOf? P e = some sz)
  (hx : za1 x = some ax) (hi : za1 i = some ai) (hr : iop S (.idxs sz ax ai) = some (v, S')) :
  ∃ u, (Instr.indexAt t (a.eval x) (a.eval i)).run P w = .ok u w /\ VRel w I.ro (some I) v u /\ S' = S := by
 simp only [iop] at hr;split at hr
 ·rename_i es k n hxv hiv;split at hr
  ·rename_i hn;split at hr
   ·rename_i e' he';split at hr
    ·rename_i hsz;simp only [y00, y0b] at hr;obtain ⟨rfl, rfl⟩ := hr;have hX := h.arg hx hxv;have hI := h.arg hi hiv;generalize a.eval x = xu at hX;generalize a.eval i = iu at hI;cases hI;cases hX with
     | @vs _ _ p len c sz' b off us hl hcap ha hszz hc hv =>
      have hne : es ≠ [] := by intro e0; subst e0; simp at he'
      have hm := y0i he';have : sz' = sz := (hszz e' hm).symm.trans hsz;subst this;rw [ha hne];refine ⟨_, zez hu hs hn.1 (by rw [hl]; exact hn.2), ?_, rfl⟩;rw [zbm];refine .vptr (fun j => us n.toNat j) (fun j x hx => ?_) (fun j x hx => hv _ _ _ _ he' hx);exact hc _ _ _ _ he' hx
    ·cases hr
   ·cases hr
  ·cases hr
 ·rename_i id st sz' off len cap k n hxv hiv;split at hr
  ·rename_i hn;obtain ⟨rfl, n0, n1⟩ := hn;simp only [y00, y0b] at hr;obtain ⟨rfl, rfl⟩ := hr;have hX := h.arg hx hxv;have hI := h.arg hi hiv;generalize a.eval x = xu at hX;generalize a.eval i = iu at hI;cases hI;cases hX with
   | @ms _ _ _ _ _ _ _ p c hl hp hcap hcl =>
    obtain ⟨q, rfl⟩ := hp (by omega);refine ⟨_, zez hu hs n0 n1, ?_, rfl⟩;obtain ⟨J, hJ, c1, c2, c3⟩ := hcl;injection hJ with hJ; subst hJ;refine .mptr ⟨_, rfl⟩ ⟨I, rfl, c1, fun hv => by have := c3 hv; omega, fun b base n' hb => ?_⟩
    rcases c2 b base n' hb with h00 | ⟨e1, _⟩
    ·omega
    ·injection e1 with e1; subst e1;simp [zbm, y2b]
  ·cases hr
 ·cases hr
theorem zey {t e : TypeId} {len sz : Nat} (hu : P.underlying t = some (.array len e)) (hs : sizeOf? P e = some sz) {q : Addr} {k : IntKind} {n : Int} (h0 : 0 <= n) (h1 : n < len) :
  (Instr.indexAt t (.pointer (some q)) (.int k n)).run P w = .ok (.pointer (some (q.add (n.toNat * sz)))) w := by
 have : (0 <= n /\ n < (len : Int)) := ⟨h0, h1⟩
 simp [Instr.indexAt, asIntOf, za2 hu, zc0 hs, this, Instr.sureAddr]
theorem s_idxarr (h : Rel w0 N0 I S a w) {t e : TypeId} {len sz : Nat} {x i : Operand} {ax ai : Arg} (hu : P.underlying t = some (.array len e)) (hs : sizeOf? P e = some sz)
  (hx : za1 x = some ax) (hi : za1 i = some ai) (hr : iop S (.idxarr len sz ax ai) = some (v, S')) :
  ∃ u, (Instr.indexAt t (a.eval x) (a.eval i)).run P w = .ok u w /\ VRel w I.ro (some I) v u /\ S' = S := by
 simp only [iop] at hr;split at hr
 ·rename_i cs k n hxv hiv;split at hr
  ·rename_i hn;simp only [y00, y0b] at hr;obtain ⟨rfl, rfl⟩ := hr;have hX := h.arg hx hxv;have hI := h.arg hi hiv;generalize a.eval x = xu at hX;generalize a.eval i = iu at hI;cases hI;cases hX with
   | vptr us hc hv =>
    refine ⟨_, zey hu hs hn.1 hn.2.1, ?_, rfl⟩;rw [zbm];exact zpa us hc hv _
  ·cases hr
 ·rename_i id st off k n hxv hiv;split at hr
  ·rename_i hn;simp only [y00, y0b] at hr;obtain ⟨rfl, rfl⟩ := hr;have hX := h.arg hx hxv;have hI := h.arg hi hiv;generalize a.eval x = xu at hX;generalize a.eval i = iu at hI;cases hI;obtain ⟨p, rfl⟩ : ∃ p, xu = .pointer (some p) := by cases hX with | mptr hk _ => exact hk
   exact ⟨_, zey hu hs hn.1 hn.2, zrm hX, rfl⟩
  ·cases hr
 ·cases hr
theorem s_idxagg (h : Rel w0 N0 I S a w) {t e : TypeId} {len sz : Nat} {g : Option Nat} {x i : Operand} {ax ai : Arg} (hu : P.underlying t = some (.array len e)) (hs : sizeOf? P e = some sz) (hg : zhu P e = some g)
  (hx : za1 x = some ax) (hi : za1 i = some ai) (hr : iop S (.idxagg len sz g.isSome ax ai) = some (v, S')) :
  ∃ u, (Instr.index t (a.eval x) (a.eval i)).run P w = .ok u w /\ VRel w I.ro (some I) v u /\ S' = S := by
 simp only [iop] at hr;split at hr
 ·rename_i cs k n hxv hiv;split at hr
  ·rename_i hn;obtain ⟨n0, n1, n2⟩ := hn;have hX := h.arg hx hxv;have hI := h.arg hi hiv;generalize a.eval x = xu at hX;generalize a.eval i = iu at hI;cases hI;cases hX with
   | @agg _ _ us h1 h2 =>
    have hb : (0 <= n /\ n < (len : Int)) := ⟨n0, n1⟩
    have run : ∀ u, (part e us (n.toNat * sz)).run P w = .ok u w -> (Instr.index t (.agg us) (.int k n)).run P w = .ok u w := by
     intro u eq; simp [Instr.index, asIntOf, za2 hu, zc0 hs, hb, eq]
    obtain ⟨p1, p2⟩ := zic hg us (n.toNat * sz) w;cases g with
    | some m =>
     have : m = sz := by
      have := (zs4 hg w).2 m rfl;rw [hs] at this; injection this with this; exact this.symm
     subst this;simp only [Option.isSome_some, if_true, y00, y0b] at hr;obtain ⟨rfl, rfl⟩ := hr;exact ⟨_, run _ (p1 m rfl), zqn h1 h2 n2, rfl⟩
    | none =>
     simp only [Option.isSome_none, y0t, if_false, y03, y0b] at hr;obtain ⟨c, hc, rfl, rfl⟩ := hr;have e1 : us[n.toNat * sz]? = some (us.getD (n.toNat * sz) undef) := by
      have : n.toNat * sz < us.size := by rw [h1]; exact (y05.1 hc).1
      simp [y02, this]
     exact ⟨_, run _ (p2 _ rfl e1), h2 _ _ hc, rfl⟩
  ·cases hr
 ·cases hr
theorem s_idxstr (h : Rel w0 N0 I S a w) {t : TypeId} {x i : Operand} {ax ai : Arg} (hu : P.underlying t = some .string)
  (hx : za1 x = some ax) (hi : za1 i = some ai) (hr : iop S (.idxstr ax ai) = some (v, S')) :
  ∃ u, (Instr.index t (a.eval x) (a.eval i)).run P w = .ok u w /\ VRel w I.ro (some I) v u /\ S' = S := by
 simp only [iop] at hr;split at hr
 ·rename_i s k n hxv hiv;split at hr
  ·rename_i hn;split at hr
   ·rename_i bt hbt;simp only [y00, y0b] at hr;obtain ⟨rfl, rfl⟩ := hr;have hX := h.arg hx hxv;have hI := h.arg hi hiv;generalize a.eval x = xu at hX;generalize a.eval i = iu at hI;cases hI;cases hX;rename_i t';have : t'[n.toNat]? = some bt := by
     have h1 : t'.data[n.toNat]? = some bt := by simpa using hbt
     have hlt : n.toNat < t'.size := (y0e.1 h1).1;rw [getElem?_pos t' n.toNat hlt];exact congrArg some (y0e.1 h1).2
    refine ⟨.int .u8 bt.toNat, by simp [Instr.index, asIntOf, za2 hu, hn, this], .int, rfl⟩
   ·cases hr
  ·cases hr
 ·cases hr
end
section
variable {P : Program} {w0 w : World} {N0 : Nat} {I : LI} {S S' : AS} {a : Act} {io : IOp} {v : AV}
theorem zjp (h : HRel w0 N0 I S.heap S.next w) {p : AV} {u : Value} {cs : List AV} (hp : VRel w I.ro (some I) p u) (hd : S.deref p = some cs) :
  ∃ b o, u = .pointer (some ⟨b, o, none⟩) /\ ∀ i x, cs[i]? = some x -> ∃ y, w.cell? ⟨b, o + i, none⟩ = some y /\ VRel w I.ro (some I) x y := by
 unfold AS.deref at hd;split at hd
 ·simp only [y00] at hd; subst hd;cases hp with
  | @vptr _ _ b off us hc hv => exact ⟨b, off, rfl, fun i x hx => ⟨_, (hc i x hx).2, (hv i x hx).pure⟩⟩
 ·rename_i id st off;split at hd
  ·rename_i st' cs' hl;split at hd
   ·rename_i hst; obtain ⟨hst, _⟩ := hst; subst hst;simp only [y00] at hd; subst hd;cases hp with
    | mptr hk hcl =>
     obtain ⟨J, hJ, c1, c0, c2⟩ := hcl;injection hJ with hJ; subst hJ;obtain ⟨_, l, hl', hol⟩ := h.heap _ _ _ hl;cases l with
     | void => exact absurd hl' c0
     | «at» b base n =>
      refine ⟨b, base + off, c2 _ _ _ hl', fun i x hx => ?_⟩;obtain ⟨c, elem, h1, h2, h3, h4⟩ := hol;rw [y18] at hx;have hlt : off + i < cs'.length := (y05.1 hx).1;have : base + (off + i) < c.size := by omega
      refine ⟨c.getD (base + (off + i)) undef, ?_, h4 _ x hx⟩;simp [World.cell?, h1, y2b, this, y02]
   ·cases hd
  ·rename_i st' T full cs' hl;split at hd
   ·rename_i hst; obtain ⟨hst, _⟩ := hst; subst hst;simp only [y00] at hd; subst hd;cases hp with
    | mptr hk hcl =>
     obtain ⟨J, hJ, c1, c0, c2⟩ := hcl;injection hJ with hJ; subst hJ;obtain ⟨_, l, hl', hol⟩ := h.heap _ _ _ hl;cases l with
     | void => exact absurd hl' c0
     | «at» b base n =>
      refine ⟨b, base + off, c2 _ _ _ hl', fun i x hx => ?_⟩;obtain ⟨_, _, c, h1, h2, h3, h4⟩ := hol;rw [y18] at hx;have hlt : off + i < cs'.length := (y05.1 hx).1;have : base + (off + i) < c.size := by omega
      refine ⟨c.getD (base + (off + i)) undef, ?_, h4 _ x hx⟩;simp [World.cell?, h1, y2b, this, y02]
   ·cases hd
  ·cases hd
 ·cases hd
theorem s_load (h : Rel w0 N0 I S a w) {t : TypeId} {g : Option Nat} {x : Operand} {ax : Arg} (hg : zhu P t = some g) (hx : za1 x = some ax) (hr : iop S (.load g ax) = some (v, S')) :
  ∃ u, (Instr.loadAt t (a.eval x)).run P w = .ok u w /\ VRel w I.ro (some I) v u /\ S' = S := by
 simp only [iop] at hr;split at hr
 ·rename_i p hp;split at hr
  ·rename_i cs hcs;obtain ⟨b, o, hu, hc⟩ := zjp h.hrel (h.arg hx hp) hcs;obtain ⟨g1, g2⟩ := zs4 hg w;rw [hu];split at hr
   ·rename_i n;split at hr
    ·rename_i hle;simp only [y00, y0b] at hr;obtain ⟨rfl, rfl⟩ := hr;have key : ∀ j, j < n -> w.cell? ((⟨b, o, none⟩ : Addr).add j) = some ((w.cell? ⟨b, o + j, none⟩).getD undef) := by
      intro j hj;obtain ⟨y, hy, _⟩ := hc j cs[j] (by simp [show j < cs.length by omega])
      rw [zbm, hy]; rfl
     have rl := run_loadCells (P := P) w ⟨b, o, none⟩ n (fun j => (w.cell? ⟨b, o + j, none⟩).getD undef) key;refine ⟨.agg ((List.range n).map fun j => (w.cell? ⟨b, o + j, none⟩).getD undef).toArray, by simp [Instr.loadAt, Instr.sureAddr, loadVar, g1, zc0 (g2 n rfl) w, rl], ?_, rfl⟩;refine .agg (by simp; omega) fun i x hx => ?_;have hi : i < n := by have := (y05.1 hx).1; simp at this; omega
     rw [y13 hi] at hx;obtain ⟨y, hy, hxy⟩ := hc i x hx;have : ((List.range n).map fun j => (w.cell? ⟨b, o + j, none⟩).getD undef).toArray.getD i undef = y := by
      simp [y02, hi, hy]
     rw [this]; exact hxy
    ·cases hr
   ·split at hr
    ·rename_i x xs;simp only [y00, y0b] at hr;obtain ⟨rfl, rfl⟩ := hr;obtain ⟨y, hy, hxy⟩ := hc 0 x (by simp);simp only [y2e] at hy;refine ⟨y, ?_, hxy, rfl⟩;simp [Instr.loadAt, Instr.sureAddr, loadVar, g1, run_load, hy]
    ·cases hr
  ·cases hr
 ·cases hr
theorem zgq (h : Rel w0 N0 I S a w) {cs : List AV} {us : Array Value} {elem : TypeId} (hc : ∀ (i : Nat) (x : AV), cs[i]? = some x -> VRel w I.ro (some I) x (us.getD i undef)) (hle : cs.length <= us.size) :
  Rel w0 N0 (I.bind S.next (.at w.heap.size 0 us.size)) (S.new (.cells cs)) a (w.alloc (.cells us elem)) /\ Evo I w (I.bind S.next (.at w.heap.size 0 us.size)) (w.alloc (.cells us elem)) := by
 have hN : N0 <= w.heap.size := y0u h.hrel.base h.hrel.below.size;have hb : Below N0 w (w.alloc (.cells us elem)) := (Below.refl _ _).alloc hN _;have key := h.hrel.bind (w' := w.alloc (.cells us elem)) (id := S.next) (next' := S.next + 1) (l := .at w.heap.size 0 us.size) (o := .cells cs) hb
  (fun b hb' _ => Below.heap_alloc w _ b hb')
  (fun b base n e => by injection e with e1 e2 e3; subst e1; exact .inl (y08 _))
  (fun e => ⟨us, elem, World.alloc_heap_new w _, rfl, by omega, fun i x hx => by rw [y1b]; exact (hc i x hx).evo e⟩)
  (y0y _) (y07 _)
 obtain ⟨k1, k2⟩ := key;refine ⟨⟨?_, h.tmps.evo k2, ?_, ?_⟩, k2⟩
 ·simp [LI.bind, AS.new, h.clk]
 ·-- the new name is in front
  have hfree := h.hrel.free S.next (y08 _);have hlook : ∀ i, look i ((S.next, I.clk, AObj.cells cs) :: S.heap) = look i (zap S.next (I.clk, AObj.cells cs) S.heap) := by
   intro i; rw [za0, zak]
  refine ⟨k1.below, k1.base, fun i st o hi => ?_, fun i st l hl => ?_, k1.inj, k1.fresh, fun i hi => ?_, k1.okN, k1.glob⟩
  ·simp only [AS.new, <- h.clk] at hi; rw [hlook] at hi; exact k1.heap i st o hi
  ·obtain ⟨o, ho⟩ := k1.locs i st l hl;exact ⟨o, by simp only [AS.new, <- h.clk]; rw [hlook]; exact ho⟩
  ·simp only [AS.new, <- h.clk]; rw [hlook]; exact k1.free i hi
 ·refine (h.marks.bind (id := S.next) (s := I.clk) (o := .cells cs) fun st e => ?_).congr fun i => ?_
  ·rw [h.hrel.free _ (y08 _)] at e; cases e
  ·simp only [AS.new, <- h.clk]; rw [za0, zak]
end
theorem zgu (n : Nat) (z : List AV) : (zeu n z).length = n * z.length := by
 induction n with
 | zero => simp [zeu]
 | succ n ih => simp [zeu, ih, y23, Nat.add_comm]
theorem repl_get (z : List AV) (_hz : 0 < z.length) : ∀ (n i : Nat), i < n * z.length -> (zeu n z)[i]? = z[i % z.length]? := by
 intro n
 induction n with
 | zero => intro i hi; simp at hi
 | succ n ih =>
  intro i hi;simp only [zeu];by_cases h : i < z.length
  ·rw [y0z h, Nat.mod_eq_of_lt h]
  ·rw [y12 (by omega), ih (i - z.length) (by rw [y23] at hi; omega)];congr 1;rw [Nat.mod_eq_sub_mod (by omega : i >= z.length)]
theorem zgd {w : World} {ro : Nat -> Prop} {L : Option LI} {z : List AV} {zs : Array Value} (h : CRel w ro L z zs) (hz : 0 < z.length) (n : Nat) :
  CRel w ro L (zeu n z) ((Array.range (n * z.length)).map (fun i => zs[i % zs.size]!)) := by
 refine ⟨by simp [zgu], fun i x hx => ?_⟩;have hi : i < n * z.length := by have := (y05.1 hx).1; rwa [zgu] at this
 rw [repl_get z hz n i hi] at hx;have hlt : i % zs.size < zs.size := Nat.mod_lt _ (by rw [h.1]; exact hz);have e : ((Array.range (n * z.length)).map (fun i => zs[i % zs.size]!)).getD i undef = zs.getD (i % z.length) undef := by
  rw [h.1] at hlt;simp [y02, hi, h.1, hlt]
 rw [e];exact h.2 _ x hx
section
variable {P : Program} {w0 w : World} {N0 : Nat} {I : LI} {S S' : AS} {a : Act} {io : IOp} {v : AV}
theorem zn9 {w' : World} {id : Nat} {b n : Nat} : VRel w' (I.bind id (.at b 0 n)).ro (some (I.bind id (.at b 0 n))) (.mptr id I.clk 0) (.pointer (some ⟨b, 0, none⟩)) := by
 refine .mptr ⟨_, rfl⟩ ⟨_, rfl, y07 _, ?_, fun b' base n' hb => ?_⟩
 ·rw [LI.bind_same]; simp
 ·rw [LI.bind_same] at hb; injection hb with hb; injection hb with h1 h2 h3; subst h1 h2 h3; rfl
theorem zin {w' : World} {id sz : Nat} {b n len c : Nat} {cap : Option Nat} (h1 : len <= c) (h2 : ∀ k, cap = some k -> c = k) (h3 : cap = none -> c * sz = n) :
  VRel w' (I.bind id (.at b 0 n)).ro (some (I.bind id (.at b 0 n))) (.ms id I.clk sz 0 len cap) (.slice (some ⟨b, 0, none⟩) len c) := by
 refine .ms h1 (fun _ => ⟨_, rfl⟩) h2 ⟨_, rfl, y07 _, fun b' base n' hb => .inr ?_, ?_⟩
 ·rw [LI.bind_same] at hb; injection hb with hb; injection hb with e1 e2 e3; subst e1 e2 e3;exact ⟨rfl, fun e => by simpa using h3 e⟩
 ·rw [LI.bind_same]; simp
theorem s_alloc (h : Rel w0 N0 I S a w) {t : TypeId} {z : List AV} (hz : zdt P t = some z) (hr : iop S (.alloc z) = some (v, S')) :
  ∃ u w' I', (Instr.alloc t true (.tuple #[])).run P w = .ok u w' /\ VRel w' I'.ro (some I') v u /\ Rel w0 N0 I' S' a w' /\ Evo I w I' w' := by
 simp only [iop, y00, y0b] at hr;obtain ⟨rfl, rfl⟩ := hr;obtain ⟨inf, u, hi, hzz, hcr⟩ := zed hz;obtain ⟨c1, c2⟩ := hcr w I.ro (some I);obtain ⟨k1, k2⟩ := zgq h (elem := t) c2 (by omega);refine ⟨.pointer (some ⟨w.heap.size, 0, none⟩), _, _, ?_, ?_, k1, k2⟩
 ·simp [Instr.alloc, zeroValue, typeInfo, hi, hzz, newVar, newRow]
 ·rw [<- h.clk]; exact zn9
theorem s_box (h : Rel w0 N0 I S a w) {t : TypeId} {x : Operand} {ax : Arg} (hx : za1 x = some ax) (hr : iop S (.box ax) = some (v, S')) :
  ∃ u w' I', (Instr.box t (a.eval x)).run P w = .ok u w' /\ VRel w' I'.ro (some I') v u /\ Rel w0 N0 I' S' a w' /\ Evo I w I' w' := by
 simp only [iop] at hr;split at hr
 ·rename_i xv hxv;split at hr
  ·rename_i cs hcs;simp only [y00, y0b] at hr;obtain ⟨rfl, rfl⟩ := hr;obtain ⟨c1, c2⟩ := zh2 (h.arg hx hxv) hcs;obtain ⟨k1, k2⟩ := zgq h (elem := t) c2 (by omega);refine ⟨.pointer (some ⟨w.heap.size, 0, none⟩), _, _, ?_, ?_, k1, k2⟩
   ·simp [Instr.box, newVar, newRow]
   ·rw [<- h.clk]; exact zn9
  ·cases hr
 ·cases hr
theorem s_bslice (h : Rel w0 N0 I S a w) {t e : TypeId} {s len : Nat} {z : List AV} {parts : Array (Nat × Operand)} {ps : List (Nat × Nat × Arg)} (hu : P.underlying t = some (.slice e)) (hs : sizeOf? P e = some s) (hz : zdt P e = some z)
  (h0 : s ≠ 0) (h1 : len * s <= 16777216) (h2 : z.length = s) (hp : zdw (fun i => some (i * s, s)) parts.toList = some ps) (hr : iop S (.bslice s len (zeu len z) ps) = some (v, S')) :
  ∃ u w' I', (Instr.buildSlice t len (parts.map fun (i, x) => (i, a.eval x))).run P w = .ok u w' /\ VRel w' I'.ro (some I') v u /\ Rel w0 N0 I' S' a w' /\ Evo I w I' w' := by
 simp only [iop] at hr;split at hr
 ·rename_i l hl;split at hr
  ·rename_i cs hcs;simp only [y00, y0b] at hr;obtain ⟨rfl, rfl⟩ := hr;obtain ⟨inf, u, hi, hzz, hcr⟩ := zed hz;have hcr0 := hcr w I.ro (some I);have rc := zgd hcr0 (by omega) len;rw [h2] at rc;obtain ⟨us, f1, f2⟩ := zmt h _ parts.toList ps l _ cs _ hp hl hcs rc;have f1' : Instr.fill (fun i => some (i * s, s)) ((Array.range (len * s)).map fun i => u.cells[i % u.cells.size]!) ((parts.map fun (i, x) => (i, a.eval x)).toList) = some us := by
    rw [<- f1]; simp
   obtain ⟨k1, k2⟩ := zgq h (elem := e) f2.2 (by rw [f2.1]; exact y08 _);have hcl : cs.length = len * s := by
    rw [<- f2.1];have : ∀ (xs : List (Nat × Value)) (c r : Array Value), Instr.fill (fun i => some (i * s, s)) c xs = some r -> r.size = c.size := by
     intro xs
     induction xs with
     | nil => intro c r hh; simp [Instr.fill] at hh; rw [hh]
     | cons x xs ih =>
      intro c r hh;simp only [Instr.fill] at hh;split at hh
      ·cases hh
      ·rw [ih _ _ hh, zgk]
    rw [this _ _ _ f1']; simp
   refine ⟨.slice (some ⟨w.heap.size, 0, none⟩) len len, _, _, ?_, ?_, k1, k2⟩
   ·by_cases hl0 : len = 0
    ·subst hl0;have er : Array.range (0 * s) = #[] := by rw [y2n]; rfl
     rw [er] at f1';simp only [Instr.buildSlice, Sem.run_bind, za2 hu, Result.andThen_ok, zc0 hs, y2n, y1q, gt_iff_lt, if_false, if_true, Sem.run_pure];rw [y2n] at er;simp only [er, Array.map_empty] at f1' ⊢;simp only [f1', newRow, Sem.run_bind, run_newObj, Result.andThen_ok, Sem.run_pure];rfl
    ·have n1 : ¬ (len * s = 0) := by rw [Nat.mul_eq_zero]; omega
     have n2 : ¬ (len * s > 2 ^ 24) := by omega
     simp only [Instr.buildSlice, Sem.run_bind, za2 hu, Result.andThen_ok, zc0 hs, n2, if_false, Sem.run_pure, n1, zeroValue, typeInfo, run_program, hi, hzz, f1', newRow, run_newObj];rfl
   ·rw [<- h.clk];have : us.size = len * s := by rw [f2.1, hcl]
    exact zin (y08 _) (fun k hk => by injection hk) (fun e => by cases e)
  ·cases hr
 ·cases hr
end
theorem zek {w : World} {N0 b : Nat} (c : Array Value) (hb : N0 <= b) : Below N0 w (w.setRow b c) :=
 ⟨rfl, rfl, rfl, by simp, fun k hk => setRow_other w b k c (by omega)⟩
theorem zf4 (sz : Nat) : ∀ (n : Nat) (l : List AV), n * sz <= l.length -> (zdg sz n l).flatten = l.take (n * sz)
 | 0, l, _ => by simp [zdg]
 | n + 1, l, h => by
  rw [y23] at h;simp only [zdg, y1c];rw [zf4 sz n (l.drop sz) (by simp; omega), y23, Nat.add_comm, List.take_add]
theorem zdm (sz : Nat) : ∀ (n : Nat) (l : List AV), (zdg sz n l).length = n
 | 0, _ => rfl
 | n + 1, l => by simp [zdg, zdm sz n]
theorem zhw (sz : Nat) : ∀ (n : Nat) (l : List AV), n * sz <= l.length -> ∀ e ∈ zdg sz n l, e.length = sz
 | 0, _, _, e, he => by simp [zdg] at he
 | n + 1, l, h, e, he => by
  rw [y23] at h;simp only [zdg, y0f] at he;rcases he with rfl | he
  ·simp; omega
  ·exact zhw sz n (l.drop sz) (by simp; omega) e he
theorem ze5 (sz : Nat) : ∀ (es : List (List AV)), (∀ e ∈ es, e.length = sz) -> es.flatten.length = es.length * sz
 | [], _ => by simp
 | e :: es, h => by
  simp only [y1c, y0l, y19];rw [ze5 sz es (fun x hx => h x (y0a _ hx)), h e (y01 ..), y23]; omega
theorem zjy (sz : Nat) : ∀ (es : List (List AV)), (∀ e ∈ es, e.length = sz) -> ∀ k x, es.flatten[k]? = some x -> ∃ i j e, es[i]? = some e /\ e[j]? = some x /\ k = i * sz + j
 | [], _, k, x, h => by simp at h
 | e :: es, hs, k, x, h => by
  simp only [y1c] at h;have he := hs e (y01 ..);by_cases hk : k < e.length
  ·rw [y0z hk] at h;exact ⟨0, k, e, rfl, h, by omega⟩
  ·rw [y12 (by omega)] at h;obtain ⟨i, j, e', h1, h2, h3⟩ := zjy sz es (fun x hx => hs x (y0a _ hx)) _ x h;exact ⟨i + 1, j, e', by simpa using h1, h2, by rw [y23]; omega⟩
section
variable {P : Program} {w0 w : World} {N0 : Nat} {I : LI} {S S' : AS} {a : Act} {io : IOp} {v : AV}
theorem zhs (h : Rel w0 N0 I S a w) {id st b base n : Nat} {cs cs' : List AV} {c c' : Array Value} {elem : TypeId} (hl : look id S.heap = some (st, .cells cs)) (hloc : I.loc id st = some (.at b base n))
  (hb : w.heap[b]? = some (.cells c elem (0, 0))) (hcs : c'.size = n) (hle : base + cs'.length <= n) (hc : ∀ (i : Nat) (x : AV), cs'[i]? = some x -> VRel w I.ro (some I) x (c'.getD (base + i) undef)) :
  Rel w0 N0 I { S with heap := zap id (st, .cells cs') S.heap } a (w.setRow b c') /\ Evo I w I (w.setRow b c') := by
 have key := h.hrel.write (w' := w.setRow b c') (o' := .cells cs') (zek c' (h.hrel.fresh _ _ _ _ _ hloc)) hloc hl (fun b' hb' => setRow_other w b b' c' hb')
  (fun e => ⟨c', elem, setRow_heap w b c c' elem (0, 0) hb, hcs, hle, fun i x hx => (hc i x hx).evo e⟩)
 exact ⟨⟨h.clk, h.tmps.evo key.2, key.1, h.marks.write (fun s e => by rw [hl] at e; cases e)⟩, key.2⟩
theorem ztk (h : Rel w0 N0 I S a w) {id st : Nat} {b base n : Nat} {T : TypeId} {full : Bool} {cs cs' : List AV} {c c' : Array Value} (hl : look id S.heap = some (st, .typed T full cs)) (hloc : I.loc id st = some (.at b base n))
  (hb : w.heap[b]? = some (.cells c T (0, 0))) (hcs : c'.size = n) (hle : cs'.length = cs.length) (hc : ∀ (i : Nat) (x : AV), cs'[i]? = some x -> VRel w I.ro (some I) x (c'.getD (base + i) undef)) :
  Rel w0 N0 I { S with heap := zap id (st, .typed T full cs') S.heap } a (w.setRow b c') /\ Evo I w I (w.setRow b c') := by
 have hol : base = 0 /\ (full = true -> n = cs.length) /\ base + cs.length <= n := by
  obtain ⟨_, l, hl', hol⟩ := h.hrel.heap _ _ _ hl;rw [hloc] at hl'; injection hl' with hl'; subst hl';obtain ⟨q1, q2, _, _, _, q3, _⟩ := hol;exact ⟨q1, q2, q3⟩
 have key := h.hrel.write (w' := w.setRow b c') (o' := .typed T full cs') (zek c' (h.hrel.fresh _ _ _ _ _ hloc)) hloc hl (fun b' hb' => setRow_other w b b' c' hb')
  (fun e => ⟨hol.1, fun hf => by rw [hle]; exact hol.2.1 hf, c', setRow_heap w b c c' T (0, 0) hb, hcs, by rw [hle]; exact hol.2.2, fun i x hx => (hc i x hx).evo e⟩)
 exact ⟨⟨h.clk, h.tmps.evo key.2, key.1, h.marks.write (fun s e => by rw [hl] at e; cases e)⟩, key.2⟩
theorem zmm (h : Rel w0 N0 I S a w) {id st : Nat} {cs : List AV} (hl : look id S.heap = some (st, .cells cs)) {b base n : Nat} (hloc : I.loc id st = some (.at b base n)) :
  ∃ c elem, w.heap[b]? = some (.cells c elem (0, 0)) /\ c.size = n /\ base + cs.length <= n /\ ∀ (i : Nat) (x : AV), cs[i]? = some x -> VRel w I.ro (some I) x (c.getD (base + i) undef) := by
 obtain ⟨_, l, hl', hol⟩ := h.hrel.heap _ _ _ hl;rw [hloc] at hl'; injection hl' with hl'; subst hl';exact hol
theorem s_store (h : Rel w0 N0 I S a w) {t : TypeId} {size : Nat} {x y : Operand} {ax ay : Arg} (hs : sizeOf? P t = some size) (hx : za1 x = some ax) (hy : za1 y = some ay) (hr : iop S (.store size ax ay) = some (v, S')) :
  ∃ w' I', (Instr.storeAt t (a.eval x) (a.eval y)).run P w = .ok () w' /\ v = .tup [] /\ Rel w0 N0 I' S' a w' /\ Evo I w I' w' := by
 simp only [iop] at hr;split at hr
 ·rename_i p yv hp hyv;split at hr
  ·rename_i vs hvs;split at hr
   ·rename_i hsz;simp only [y03, y0b] at hr;obtain ⟨S1, hS1, rfl, rfl⟩ := hr;have hX := h.arg hx hp;obtain ⟨v1, v2⟩ := zh2 (h.arg hy hyv) hvs;unfold AS.store at hS1;split at hS1
    ·rename_i id st off;split at hS1
     ·rename_i st' cs hl;split at hS1
      ·rename_i hcond;obtain ⟨rfl, hle, hcell⟩ := hcond;simp only [y00] at hS1; subst hS1;generalize a.eval x = xu at hX;cases hX with
       | mptr hk hcl =>
        obtain ⟨J, hJ, c1, c0, c2⟩ := hcl;injection hJ with hJ; subst hJ;obtain ⟨_, l, hl', hol⟩ := h.hrel.heap _ _ _ hl;cases l with
        | void => exact absurd hl' c0
        | «at» b base n =>
         obtain ⟨c, elem, o1, o2, o3, o4⟩ := hol;rw [c2 _ _ _ hl'];have hone : ∀ u ∈ (a.eval y).cells.toList, u.oneCell' = true := by
          intro u hu;obtain ⟨i, hi, rfl⟩ := y1g.1 hu;have hi' : i < vs.length := by rw [<- v1]; simpa using hi
          have hv := v2 i vs[i] (by simp [hi']);have : (a.eval y).cells.getD i undef = (a.eval y).cells.toList[i] := by
           have hi2 : i < (a.eval y).cells.size := by simpa using hi
           simp [y02, hi2]
          rw [this] at hv;exact zcd hv (y0h.1 hcell _ (y0x hi'))
         have hsl : (a.eval y).cells.toList.length = vs.length := by simp [v1]
         have rs := run_storeCells_at (P := P) b (base + off) elem (a.eval y).cells.toList 0 c w o1 (by omega) hone;simp only [y2e] at rs;have hgd : ∀ i x, (setAt off cs vs)[i]? = some x -> VRel w I.ro (some I) x ((c.toList.take (base + off) ++ (a.eval y).cells.toList ++ c.toList.drop (base + off + (a.eval y).cells.toList.length)).toArray.getD (base + i) undef) := by
          intro i x hx;rw [zc1 off cs vs hle] at hx;have hg := zc1 (base + off) c.toList (a.eval y).cells.toList (by simp [v1]; omega) (base + i);rw [hsl] at hg;have e : (c.toList.take (base + off) ++ (a.eval y).cells.toList ++ c.toList.drop (base + off + (a.eval y).cells.toList.length)).toArray.getD (base + i) undef = ((setAt (base + off) c.toList (a.eval y).cells.toList)[base + i]?).getD undef := by
           simp [setAt, y02]
          rw [e, hg];by_cases h1 : i < off
          ·rw [if_pos h1] at hx;rw [if_pos (by omega)];have := o4 i x hx;simpa [y02] using this
          ·rw [if_neg h1] at hx;rw [if_neg (by omega)];by_cases h2 : i < off + vs.length
           ·rw [if_pos h2] at hx;rw [if_pos (by omega)];have := v2 _ x hx;rw [show base + i - (base + off) = i - off from by omega]
            simpa [y02] using this
           ·rw [if_neg h2] at hx;rw [if_neg (by omega)];have := o4 i x hx;simpa [y02] using this
         obtain ⟨k1, k2⟩ := zhs h hl hl' o1 (c' := (c.toList.take (base + off) ++ (a.eval y).cells.toList ++ c.toList.drop (base + off + (a.eval y).cells.toList.length)).toArray)
          (by simp [v1]; omega) (by rw [zbg off cs vs hle]; exact o3) hgd
         refine ⟨_, I, ?_, rfl, k1, k2⟩;have hne : ¬ ((a.eval y).cells.size ≠ size) := by rw [v1, hsz]; simp
         simp only [Instr.storeAt, Instr.sureAddr, Sem.run_bind, Sem.run_pure, Result.andThen_ok, storeVar, zc0 hs, hne, if_false];exact rs
      ·cases hS1
     ·rename_i st' T full cs hl;split at hS1
      ·rename_i hcond;obtain ⟨rfl, hle, hcell⟩ := hcond;simp only [y00] at hS1; subst hS1;generalize a.eval x = xu at hX;cases hX with
       | mptr hk hcl =>
        obtain ⟨J, hJ, c1, c0, c2⟩ := hcl;injection hJ with hJ; subst hJ;obtain ⟨_, l, hl', hol⟩ := h.hrel.heap _ _ _ hl;cases l with
        | void => exact absurd hl' c0
        | «at» b base n =>
         obtain ⟨q1, q2, c, o1, o2, o3, o4⟩ := hol;rw [c2 _ _ _ hl'];have hone : ∀ u ∈ (a.eval y).cells.toList, u.oneCell' = true := by
          intro u hu;obtain ⟨i, hi, rfl⟩ := y1g.1 hu;have hi' : i < vs.length := by rw [<- v1]; simpa using hi
          have hv := v2 i vs[i] (by simp [hi']);have : (a.eval y).cells.getD i undef = (a.eval y).cells.toList[i] := by
           have hi2 : i < (a.eval y).cells.size := by simpa using hi
           simp [y02, hi2]
          rw [this] at hv;exact zcd hv (y0h.1 hcell _ (y0x hi'))
         have hsl : (a.eval y).cells.toList.length = vs.length := by simp [v1]
         have rs := run_storeCells_at (P := P) b (base + off) T (a.eval y).cells.toList 0 c w o1 (by omega) hone;simp only [y2e] at rs;have hgd : ∀ i x, (setAt off cs vs)[i]? = some x -> VRel w I.ro (some I) x ((c.toList.take (base + off) ++ (a.eval y).cells.toList ++ c.toList.drop (base + off + (a.eval y).cells.toList.length)).toArray.getD (base + i) undef) := by
          intro i x hx;rw [zc1 off cs vs hle] at hx;have hg := zc1 (base + off) c.toList (a.eval y).cells.toList (by simp [v1]; omega) (base + i);rw [hsl] at hg;have e : (c.toList.take (base + off) ++ (a.eval y).cells.toList ++ c.toList.drop (base + off + (a.eval y).cells.toList.length)).toArray.getD (base + i) undef = ((setAt (base + off) c.toList (a.eval y).cells.toList)[base + i]?).getD undef := by
           simp [setAt, y02]
          rw [e, hg];by_cases h1 : i < off
          ·rw [if_pos h1] at hx;rw [if_pos (by omega)];have := o4 i x hx;simpa [y02] using this
          ·rw [if_neg h1] at hx;rw [if_neg (by omega)];by_cases h2 : i < off + vs.length
           ·rw [if_pos h2] at hx;rw [if_pos (by omega)];have := v2 _ x hx;rw [show base + i - (base + off) = i - off from by omega]
            simpa [y02] using this
           ·rw [if_neg h2] at hx;rw [if_neg (by omega)];have := o4 i x hx;simpa [y02] using this
         obtain ⟨k1, k2⟩ := ztk h hl hl' o1 (c' := (c.toList.take (base + off) ++ (a.eval y).cells.toList ++ c.toList.drop (base + off + (a.eval y).cells.toList.length)).toArray)
          (by simp [v1]; omega) (by rw [zbg off cs vs hle]) hgd
         refine ⟨_, I, ?_, rfl, k1, k2⟩;have hne : ¬ ((a.eval y).cells.size ≠ size) := by rw [v1, hsz]; simp
         simp only [Instr.storeAt, Instr.sureAddr, Sem.run_bind, Sem.run_pure, Result.andThen_ok, storeVar, zc0 hs, hne, if_false];exact rs
      ·cases hS1
     ·cases hS1
    ·cases hS1
   ·cases hr
  ·cases hr
 ·cases hr
end
theorem zoi (need : Nat) : ∀ (r c : Nat), c < need -> Builtin.growBy need r c <= 2 * need + 200
 | 0, c, h => by simp [Builtin.growBy]; omega
 | r + 1, c, h => by
  simp only [Builtin.growBy];rw [if_neg (by omega)];by_cases h2 : c + (c + 768) / 4 < need
  ·exact zoi need r _ h2
  ·have : ∀ r, Builtin.growBy need r (c + (c + 768) / 4) = c + (c + 768) / 4 := by
    intro r; cases r with
    | zero => rfl
    | succ r => simp only [Builtin.growBy]; rw [if_pos (by omega)]
   rw [this]; omega
theorem zm0 (need cap : Nat) (h : cap < need) : Builtin.nextslicecap need cap <= 2 * need + 200 := by
 unfold Builtin.nextslicecap;split
 ·omega
 ·split
  ·omega
  ·exact zoi need 4 cap h
section
variable {P : Program} {w0 w : World} {N0 : Nat} {I : LI} {S S' : AS} {a : Act} {io : IOp} {v : AV}
theorem zfu (h : Rel w0 N0 I S a w) {sz : Nat} {xv : AV} {u : Value} {es : List (List AV)} (hx : VRel w I.ro (some I) xv u) (he : S.elems sz xv = some es) :
  ∃ p len c, u = .slice p len c /\ len = es.length /\ len <= c /\ (∀ e ∈ es, e.length = sz) /\
   ∀ m, m <= len -> ∃ arr, (Builtin.firstCells sz m u).run P w = .ok arr w /\ CRel w I.ro (some I) ((es.take m).flatten) arr := by
 have key : ∀ (b o n : Nat) (cs : List AV), (∀ i x, cs[i]? = some x -> ∃ y, w.cell? ⟨b, o + i, none⟩ = some y /\ VRel w I.ro (some I) x y) -> cs.length = n ->
   ∃ arr, (loadCells ⟨b, o, none⟩ n).run P w = .ok arr w /\ CRel w I.ro (some I) cs arr := by
  intro b o n cs hc hn;have hk : ∀ j, j < n -> w.cell? ((⟨b, o, none⟩ : Addr).add j) = some ((w.cell? ⟨b, o + j, none⟩).getD undef) := by
   intro j hj;obtain ⟨y, hy, _⟩ := hc j cs[j] (by simp [show j < cs.length by omega])
   rw [zbm, hy]; rfl
  refine ⟨_, run_loadCells (P := P) w ⟨b, o, none⟩ n (fun j => (w.cell? ⟨b, o + j, none⟩).getD undef) hk, by simp [hn], fun i x hx => ?_⟩;have hi : i < n := by have := (y05.1 hx).1; omega
  obtain ⟨y, hy, hxy⟩ := hc i x hx;have : ((List.range n).map fun j => (w.cell? ⟨b, o + j, none⟩).getD undef).toArray.getD i undef = y := by
   simp [y02, hi, hy]
  rw [this]; exact hxy
 have zero : ∀ p : Option Addr, ∀ c, ∃ arr, (Builtin.firstCells sz 0 (.slice p 0 c)).run P w = .ok arr w /\ CRel w I.ro (some I) [] arr := by
  intro p c;refine ⟨#[], ?_, rfl, fun i x hx => by simp at hx⟩;cases p <;> simp [Builtin.firstCells, loadCells, loadCellsFrom]
 unfold AS.elems at he;split at he
 ·simp only [y00] at he; subst he;cases hx;rename_i p;refine ⟨p, 0, 0, rfl, rfl, y08 _, by simp, fun m hm => ?_⟩;obtain rfl : m = 0 := by omega
  simpa using zero p 0
 ·rename_i es2;split at he
  ·rename_i hall;simp only [y00] at he; subst he;cases hx with
   | @vs _ _ p len c sz' b off us hl hcap ha hsz hc hv =>
    have hszz : ∀ e ∈ es2, e.length = sz := by
     intro e hm; have := y0h.1 hall e hm; simpa using this
    refine ⟨p, len, c, rfl, hl, hcap, hszz, fun m hm => ?_⟩;by_cases hne : es2 = []
    ·subst hne;simp at hl; subst hl;obtain rfl : m = 0 := by omega
     simpa using zero p c
    ·rw [ha hne];have htake : ∀ e ∈ es2.take m, e.length = sz := fun e hm => hszz e (List.mem_of_mem_take hm);have hk : ∀ i x, ((es2.take m).flatten)[i]? = some x -> ∃ y, w.cell? ⟨b, off + i, none⟩ = some y /\ VRel w I.ro (some I) x y := by
      intro i x hx;obtain ⟨q, j, e, h1, h2, h3⟩ := zjy sz _ htake i x hx;have hq : q < m := by have := (y05.1 h1).1; simp at this; omega
      rw [y13 hq] at h1;have : sz' = sz := by rw [<- hsz e (y0i h1), hszz e (y0i h1)]
      subst this;refine ⟨us q j, ?_, (hv q j e x h1 h2).pure⟩;rw [h3, <- y2b];exact (hc q j e x h1 h2).2
     obtain ⟨arr, k1, k2⟩ := key b off (m * sz) _ hk (by rw [ze5 sz _ htake]; simp; rw [Nat.min_eq_left (by omega)]);exact ⟨arr, by simpa [Builtin.firstCells] using k1, k2⟩
  ·cases he
 ·rename_i id st sz' off len cap;split at he
  ·rename_i st' cs hl;split at he
   ·rename_i hcond;obtain ⟨rfl, rfl, hle⟩ := hcond;simp only [y00] at he; subst he;cases hx with
    | @ms _ _ _ _ _ _ _ p c hlc hp hcap hcl =>
     have hcl0 : (cs.drop off).length = cs.length - off := by simp
     refine ⟨p, len, c, rfl, (zdm _ _ _).symm, hlc, zhw _ _ _ (by rw [hcl0]; omega), fun m hm => ?_⟩;by_cases hc0 : c = 0
     ·subst hc0;obtain rfl : len = 0 := by omega
      obtain rfl : m = 0 := by omega
      simpa using zero p 0
     ·obtain ⟨J, hJ, c1, c2, c3⟩ := hcl;injection hJ with hJ; subst hJ;obtain ⟨_, l, hl', hol⟩ := h.hrel.heap _ _ _ hl;cases l with
      | void => exact absurd (c3 hl') hc0
      | «at» b base n =>
       obtain ⟨cc, elem, o1, o2, o3, o4⟩ := hol;rcases c2 b base n hl' with h00 | ⟨e1, _⟩
       ·exact absurd h00 hc0
       ·subst e1;have hmle : m * sz' <= len * sz' := Nat.mul_le_mul_right _ hm;have hfl : ((zdg sz' len (cs.drop off)).take m).flatten = (cs.drop off).take (m * sz') := by
         have : ∀ (n m : Nat) (l : List AV), m <= n -> n * sz' <= l.length -> (zdg sz' n l).take m = zdg sz' m l := by
          intro n
          induction n with
          | zero => intro m l hm _; obtain rfl : m = 0 := (by omega); rfl
          | succ n ih =>
           intro m l hm hl;rw [y23] at hl;cases m with
           | zero => rfl
           | succ m => simp only [zdg, y10]; rw [ih m (l.drop sz') (by omega) (by simp; omega)]
         rw [this len m (cs.drop off) hm (by rw [hcl0]; omega), zf4 sz' m (cs.drop off) (by rw [hcl0]; omega)]
        rw [hfl];have hk : ∀ i x, ((cs.drop off).take (m * sz'))[i]? = some x -> ∃ y, w.cell? ⟨b, base + off + i, none⟩ = some y /\ VRel w I.ro (some I) x y := by
         intro i x hx;have hi : i < m * sz' := by have := (y05.1 hx).1; simp at this; omega
         rw [y13 hi, y18] at hx;have hlt : off + i < cs.length := (y05.1 hx).1;have hlt2 : base + (off + i) < cc.size := by omega
         refine ⟨cc.getD (base + (off + i)) undef, ?_, o4 _ x hx⟩;simp [World.cell?, o1, y2b, hlt2, y02]
        obtain ⟨arr, k1, k2⟩ := key b (base + off) (m * sz') ((cs.drop off).take (m * sz')) hk (by simp; omega);exact ⟨arr, by simpa [Builtin.firstCells] using k1, k2⟩
   ·cases he
  ·cases he
 ·cases he
end
section
variable {P : Program} {w0 w : World} {N0 : Nat} {I : LI} {S S' : AS} {a : Act} {io : IOp} {v : AV}
theorem Rel.drew (h : Rel w0 N0 I S a w) : Rel w0 N0 I S a w.drew /\ Evo I w I w.drew :=
 let ⟨h1, h2⟩ := h.hrel.drew
 ⟨⟨h.clk, h.tmps.evo h2, h1, h.marks⟩, h2⟩
theorem CRel.append {w : World} {ro : Nat -> Prop} {L : Option LI} {cs ds : List AV} {us zs : Array Value} (h1 : CRel w ro L cs us) (h2 : CRel w ro L ds zs) (rest : Array Value) (i : Nat) (x : AV) (hx : (cs ++ ds)[i]? = some x) :
  VRel w ro L x ((us ++ zs ++ rest).getD i undef) := by
 rw [y02];by_cases h : i < cs.length
 ·rw [y0z h] at hx;have : (us ++ zs ++ rest)[i]? = us[i]? := by
   rw [Array.append_assoc, Array.getElem?_append_left (by rw [h1.1]; exact h)]
  rw [this, <- y02]; exact h1.2 i x hx
 ·rw [y12 (by omega)] at hx;have hlt : i - cs.length < ds.length := (y05.1 hx).1;have : (us ++ zs ++ rest)[i]? = zs[i - cs.length]? := by
   rw [Array.append_assoc, Array.getElem?_append_right (by rw [h1.1]; omega), Array.getElem?_append_left (by rw [h2.1, h1.1]; exact hlt), h1.1]
  rw [this, <- y02]; exact h2.2 _ x hx
structure AppT (P : Program) (ts : Array TypeId) (e : TypeId) (sz bytes : Nat) (z : List AV) : Prop where
 t : ∃ t, ts[0]? = some t /\ P.underlying t = some (.slice e)
 t2 : ∃ t2, ts[1]? = some t2 /\ ((∃ e2, P.underlying t2 = some (.slice e2)) \/ P.underlying t2 = some .string)
 size : sizeOf? P e = some sz
 zero : zdt P e = some z
 byt : bytesOf? P e = some bytes
 zl : z.length = sz
 s0 : sz ≠ 0
 b0 : bytes ≠ 0
theorem zec {ts : Array TypeId} {e : TypeId} {sz bytes : Nat} {z : List AV} (ht : AppT P ts e sz bytes z) {ty : TypeId} {args : Array Value} {p : Option Addr} {len c n : Nat} {xu : Value} (hxu : (∃ p2 c2, xu = .slice p2 n c2) \/ ∃ s, xu = .string s /\ s.size = n)
  (h0 : args[0]? = some (.slice p len c)) (h1 : args[1]? = some xu) (hle : len + n <= c) {new : Array Value} (hn : (Builtin.firstCells sz n xu).run P w = .ok new w) {w' : World}
  (hst : match p with | some q => (storeCells (q.add (len * sz)) new.toList).run P w = .ok () w' | none => w' = w) : (Builtin.append_ ts ty args).run P w = .ok (.slice p (len + n) c) w' := by
 obtain ⟨t, ht0, htu⟩ := ht.t;obtain ⟨t2, ht1, htu2⟩ := ht.t2;unfold Builtin.append_;rcases htu2 with ⟨e2, htu2⟩ | htu2 <;> rcases hxu with ⟨p2, c2, rfl⟩ | ⟨s, rfl, rfl⟩ <;>
 simp only [ht0, h0, h1, ht1, Sem.run_bind, za2 htu, Result.andThen_ok, zc0 ht.size, za2 htu2, Sem.run_pure, y0t, if_false, Builtin.lenOf, Bool.not_false, if_true, hle, hn];all_goals
  cases p with
  | none => simp only at hst; subst hst; simp
  | some q => simp only at hst; simp [hst]
theorem zde {ts : Array TypeId} {e : TypeId} {sz bytes : Nat} {z : List AV} (ht : AppT P ts e sz bytes z) {ty : TypeId} {args : Array Value} {p : Option Addr} {len c n : Nat} {xu : Value} (hxu : (∃ p2 c2, xu = .slice p2 n c2) \/ ∃ s, xu = .string s /\ s.size = n)
  (h0 : args[0]? = some (.slice p len c)) (h1 : args[1]? = some xu) (hgt : c < len + n) (hb : len + n <= 1048576) (hb2 : bytes <= 16777216) {old new : Array Value}
  (ho : (Builtin.firstCells sz len (.slice p len c)).run P w.drew = .ok old w.drew) (hn : (Builtin.firstCells sz n xu).run P w.drew = .ok new w.drew) :
  ∃ newCap rest, len + n <= newCap /\ rest.size = (newCap - (len + n)) * sz /\
   (Builtin.append_ ts ty args).run P w = .ok (.slice (some ⟨w.heap.size, 0, none⟩) (len + n) newCap) (w.drew.alloc (.cells (old ++ new ++ rest) e)) := by
 obtain ⟨t, ht0, htu⟩ := ht.t;obtain ⟨t2, ht1, htu2⟩ := ht.t2;obtain ⟨inf, u, hi, hzz, hcr⟩ := zed ht.zero;have hby : inf.bytes = bytes := by
  have := ht.byt; unfold bytesOf? at this; rw [hi] at this; simpa using this
 have hzs : u.cells.size = sz := by rw [(hcr w (fun _ => True) none).1, ht.zl]
 have n1 : ¬ (len + n <= c) := by omega
 have n2 : ¬ (((len + n : Nat) : Int) > IntKind.i64.max /\ (False \/ inf.bytes = 0)) := by
  rintro ⟨_, h | h⟩
  ·cases h
  ·exact ht.b0 (hby ▸ h)
 have n3 : ¬ (Builtin.nextslicecap (len + n) c * inf.bytes > 2 ^ 48) := by
  have k1 := zm0 (len + n) c hgt;have k2 : Builtin.nextslicecap (len + n) c * inf.bytes <= 4194304 * 16777216 := Nat.mul_le_mul (by omega) (by rw [hby]; exact hb2);omega
 refine ⟨Question.cut (.appendCap (len + n) c e) (w.tape w.drawn (.appendCap (len + n) c e)), Builtin.zeroCells u.cells (Question.cut (.appendCap (len + n) c e) (w.tape w.drawn (.appendCap (len + n) c e)) - (len + n)), ?_, ?_, ?_⟩
 ·simp [Question.cut]
 ·simp [Builtin.zeroCells, hzs]
 ·unfold Builtin.append_;rcases htu2 with ⟨e2, htu2⟩ | htu2 <;> rcases hxu with ⟨p2, c2, rfl⟩ | ⟨s, rfl, rfl⟩ <;>
  simp only [ht0, h0, h1, ht1, Sem.run_bind, za2 htu, Result.andThen_ok, zc0 ht.size, za2 htu2, Sem.run_pure, y0t, if_false, Builtin.lenOf, Bool.not_false, if_true, n1, typeInfo, run_program, hi, n2, n3];all_goals
   simp only [run_choose_drew, Question.forced, y0t, if_false, Result.andThen_ok, run_askRoom, ho, hn, zeroValue, typeInfo, Sem.run_bind, run_program, hi, Sem.run_pure, hzz, newRow, run_newObj];rfl
theorem zm8 (h : Rel w0 N0 I S a w) {id st : Nat} {cs cs' : List AV} (hl : look id S.heap = some (st, .cells cs)) {l : Loc} {w' : World} (hbelow : Below N0 w w')
  (hold : ∀ b, b < w.heap.size -> (∀ st base n, I.loc id st ≠ some (.at b base n)) -> w'.heap[b]? = w.heap[b]?)
  (hlo : ∀ b base n, l = .at b base n -> w.heap.size <= b \/ ∃ st base' n', I.loc id st = some (.at b base' n'))
  (ho : Evo I w (I.bind id l) w' -> ORel w' (I.bind id l) l (.cells cs')) :
  Rel w0 N0 (I.bind id l) { S with heap := zap id (S.clk, .cells cs') S.heap, clk := S.clk + 1 } a w' /\ Evo I w (I.bind id l) w' := by
 have hid : id < S.next := by
  rcases y20 id S.next with h1 | h1
  ·exact h1
  ·rw [h.hrel.free id h1] at hl; cases hl
 obtain ⟨k1, k2⟩ := h.hrel.bind hbelow hold hlo ho (y08 S.next) hid;rw [h.clk] at k1;exact ⟨⟨by simp [LI.bind, h.clk], h.tmps.evo k2, k1, h.marks.bind fun s e => by rw [hl] at e; cases e⟩, k2⟩
theorem s_append (h : Rel w0 N0 I S a w) {ts : Array TypeId} {e : TypeId} {sz bytes : Nat} {z : List AV} (ht : AppT P ts e sz bytes z) {ty : TypeId} {args : Array Value} {su xu : Value} (h0 : args[0]? = some su) (h1 : args[1]? = some xu)
  {sv xv : AV} {es : List (List AV)} (hs : VRel w I.ro (some I) sv su) (hx : VRel w I.ro (some I) xv xu) (he : S.elems sz xv = some es) (hr : zbv S sz bytes sv es = some (v, S')) :
  ∃ u w' I', (Builtin.append_ ts ty args).run P w = .ok u w' /\ VRel w' I'.ro (some I') v u /\ Rel w0 N0 I' S' a w' /\ Evo I w I' w' := by
 obtain ⟨p2, n, c2, rfl, hn, hnc, hsz, hfc⟩ := zfu (P := P) h hx he
 -- at the world with one draw more
 obtain ⟨hd, hdE⟩ := h.drew;have hsd := hs.evo hdE;obtain ⟨_, _, _, e2, _, _, _, hfcd⟩ := zfu (P := P) hd (hx.evo hdE) he;injection e2 with q1 q2 q3;subst q1 q2 q3;have full : es.take n = es := by rw [hn]; simp
 obtain ⟨new, hnew, hnewC⟩ := hfc n (y08 _);obtain ⟨newd, hnewd, hnewdC⟩ := hfcd n (y08 _);rw [full] at hnewC hnewdC;have hfl : es.flatten.length = n * sz := by rw [ze5 sz es hsz, hn]
 unfold zbv at hr;split at hr
 ·-- nothing appended
  rename_i hz;obtain rfl : n = 0 := by omega
  have hnn : new = #[] := Array.eq_empty_of_size_eq_zero (by rw [hnewC.1, hfl]; simp);subst hnn;have fin : ∀ (p : Option Addr) (len c : Nat), su = .slice p len c -> len <= c -> (Builtin.append_ ts ty args).run P w = .ok su w := by
   intro p len c e hle;subst e;have := zec (P := P) (w := w) (w' := w) ht (ty := ty) (.inl ⟨_, _, rfl⟩) h0 h1 (by omega) hnew (by cases p <;> simp [storeCells]);simpa using this
  split at hr <;> simp only [y00, y0b, reduceCtorEq] at hr
  ·obtain ⟨rfl, rfl⟩ := hr;refine ⟨su, w, I, ?_, hs, h, Evo.refl I w⟩;generalize su = su' at hs h0 fin;cases hs;exact fin _ _ _ rfl (y08 _)
  ·obtain ⟨rfl, rfl⟩ := hr;refine ⟨su, w, I, ?_, hs, h, Evo.refl I w⟩;generalize su = su' at hs h0 fin;cases hs with
   | vs us hl hcap ha hsz hc hv => exact fin _ _ _ rfl hcap
  ·obtain ⟨rfl, rfl⟩ := hr;refine ⟨su, w, I, ?_, hs, h, Evo.refl I w⟩;generalize su = su' at hs h0 fin;cases hs with
   | ms hl hp hcap hcl => exact fin _ _ _ rfl hl
 ·rename_i hz;have hn0 : 0 < n := by omega
  split at hr
  ·rename_i hcond;obtain ⟨hcell, hby⟩ := hcond;split at hr
   ·-- onto nothing
    split at hr
    ·rename_i hlim;simp only [y00, y0b] at hr;obtain ⟨rfl, rfl⟩ := hr;generalize su = su' at hs h0;cases hs;rename_i p;have ho : (Builtin.firstCells sz 0 (.slice p 0 0)).run P w.drew = .ok #[] w.drew := by cases p <;> simp [Builtin.firstCells, loadCells, loadCellsFrom]
     obtain ⟨nc, rest, r1, r2, r3⟩ := zde (P := P) (w := w) ht (ty := ty) (.inl ⟨_, _, rfl⟩) h0 h1 (by omega : 0 < 0 + n) (by omega) hby ho hnewd;have hc : CRel w.drew I.ro (some I) [] (#[] : Array Value) := ⟨rfl, fun i x hx => by simp at hx⟩
     obtain ⟨k1, k2⟩ := zgq hd (cs := es.flatten) (us := #[] ++ newd ++ rest) (elem := e) (fun i x hx => hc.append hnewdC rest i x (by simpa using hx)) (by simp [hnewdC.1]);refine ⟨_, _, _, r3, ?_, k1, hdE.trans k2⟩;rw [<- h.clk, <- hn];have : (#[] ++ newd ++ rest).size = nc * sz := by
      simp [hnewdC.1, hfl, r2];rw [<- y2o]; congr 1; omega
     rw [y1b];exact zin (by omega) (fun k hk => by cases hk) (fun _ => this.symm)
    ·cases hr
   ·rename_i id st sz' off len cap;split at hr
    ·rename_i st' cs hl;split at hr
     ·rename_i hc4;obtain ⟨rfl, rfl, hle, hlim⟩ := hc4
      -- the slice's own elements, read once more
      have hel : S.elems sz' (.ms id st' sz' off len cap) = some (zdg sz' len (cs.drop off)) := by
       simp only [AS.elems, hl]; rw [if_pos ⟨trivial, trivial, hle⟩]
      obtain ⟨p, len', c, e3, hlen', hlc, _, hold⟩ := zfu (P := P) hd hsd hel;subst e3;rw [zdm] at hlen';subst hlen';obtain ⟨old, hold1, hold2⟩ := hold len' (y08 _);have hoc : ((zdg sz' len' (cs.drop off)).take len').flatten = (cs.drop off).take (len' * sz') := by
       have : (zdg sz' len' (cs.drop off)).take len' = zdg sz' len' (cs.drop off) := List.take_of_length_le (by rw [zdm]; exact y08 _);rw [this, zf4]; simp; omega
      rw [hoc] at hold2
      -- a new block
      have grow : c < len' + n -> ∃ nc rest, len' + n <= nc /\ rest.size = (nc - (len' + n)) * sz' /\ (old ++ newd ++ rest).size = nc * sz' /\
        (Builtin.append_ ts ty args).run P w = .ok (.slice (some ⟨w.heap.size, 0, none⟩) (len' + n) nc) (w.drew.alloc (.cells (old ++ newd ++ rest) e)) := by
       intro hgt;obtain ⟨nc, rest, r1, r2, r3⟩ := zde (P := P) (w := w) ht (ty := ty) (.inl ⟨_, _, rfl⟩) h0 h1 hgt (by omega) hby hold1 hnewd;refine ⟨nc, rest, r1, r2, ?_, r3⟩;simp only [Array.size_append, hold2.1, hnewdC.1, hfl, r2];have : ((cs.drop off).take (len' * sz')).length = len' * sz' := by simp; omega
       rw [this, <- y2o, <- y2o]; congr 1; omega
      cases hs with
      | ms hlc hp hcap hcl =>
       obtain ⟨J, hJ, c1, c2, c3⟩ := hcl;injection hJ with hJ; subst hJ;have loc0 : c ≠ 0 -> ∃ b base nn, I.loc id st' = some (.at b base nn) /\ p = some ⟨b, base + off, none⟩ /\ (cap = none -> base + off + c * sz' = nn) := by
        intro hc0;obtain ⟨_, l, hl', hol⟩ := h.hrel.heap _ _ _ hl;cases l with
        | void => exact absurd (c3 hl') hc0
        | «at» b base nn =>
         rcases c2 b base nn hl' with h00 | ⟨e1, e4⟩
         ·exact absurd h00 hc0
         ·exact ⟨b, base, nn, hl', e1, e4⟩
       -- the row that an append in place leaves
       have place : len' + n <= c -> ∃ b base nn cc elem, I.loc id st' = some (.at b base nn) /\ p = some ⟨b, base + off, none⟩ /\ (cap = none -> base + off + c * sz' = nn) /\ w.heap[b]? = some (.cells cc elem (0, 0)) /\ cc.size = nn /\
         (base + off + (len' + n) * sz' <= nn -> (Builtin.append_ ts ty args).run P w = .ok (.slice p (len' + n) c) (w.setRow b (setAt (base + off + len' * sz') cc.toList new.toList).toArray) /\
          ∀ i x, (setAt (off + len' * sz') cs es.flatten)[i]? = some x -> off + len' * sz' + es.flatten.length <= cs.length -> VRel w I.ro (some I) x ((setAt (base + off + len' * sz') cc.toList new.toList).toArray.getD (base + i) undef)) := by
        intro hfit;obtain ⟨b, base, nn, hloc, hpe, hcn⟩ := loc0 (by omega);obtain ⟨cc, elem, o1, o2, o3, o4⟩ := zmm h hl hloc;refine ⟨b, base, nn, cc, elem, hloc, hpe, hcn, o1, o2, fun hroom => ?_⟩;have hnl : new.toList.length = n * sz' := by simp [hnewC.1, hfl]
        have hms : len' * sz' + n * sz' = (len' + n) * sz' := by rw [y2o]
        have hone : ∀ u ∈ new.toList, u.oneCell' = true := by
         intro u hu;obtain ⟨i, hi, rfl⟩ := y1g.1 hu;have hi' : i < es.flatten.length := by rw [hfl, <- hnl]; exact hi
         have hv := hnewC.2 i es.flatten[i] (by simp);have : new.getD i undef = new.toList[i] := by
          have hi2 : i < new.size := by simpa using hi
          simp [y02, hi2]
         rw [this] at hv;exact zcd hv (y0h.1 hcell _ (y0x hi'))
        have rs := run_storeCells_at (P := P) b (base + off + len' * sz') elem new.toList 0 cc w o1 (by rw [hnl]; omega) hone;simp only [y2e] at rs;constructor
        ·subst hpe;refine zec (P := P) (w := w) ht (ty := ty) (.inl ⟨_, _, rfl⟩) h0 h1 hfit hnew ?_;simp only [zbm];exact rs
        ·intro i x hx hlen;rw [zc1 _ cs es.flatten hlen] at hx;have hg := zc1 (base + off + len' * sz') cc.toList new.toList (by rw [hnl]; simp; omega) (base + i);have e5 : (setAt (base + off + len' * sz') cc.toList new.toList).toArray.getD (base + i) undef = ((setAt (base + off + len' * sz') cc.toList new.toList)[base + i]?).getD undef := by
          simp [y02]
         rw [e5, hg, hnl];rw [hfl] at hx;by_cases g1 : i < off + len' * sz'
         ·rw [if_pos g1] at hx;rw [if_pos (by omega)];have := o4 i x hx;simpa [y02] using this
         ·rw [if_neg g1] at hx;rw [if_neg (by omega)];by_cases g2 : i < off + len' * sz' + n * sz'
          ·rw [if_pos g2] at hx;rw [if_pos (by omega)];have := hnewC.2 _ x hx;rw [show base + i - (base + off + len' * sz') = i - (off + len' * sz') from by omega]
           simpa [y02] using this
          ·rw [if_neg g2] at hx;rw [if_neg (by omega)];have := o4 i x hx;simpa [y02] using this
       split at hr
       ·rename_i k;have hck : c = k := hcap k rfl;subst hck;split at hr
        ·rename_i hfit;split at hr
         ·rename_i hroom;simp only [y00, y0b] at hr;obtain ⟨rfl, rfl⟩ := hr;obtain ⟨b, base, nn, cc, elem, hloc, hpe, hcn, o1, o2, go⟩ := place (by omega);obtain ⟨_, _, _, _, o3, _⟩ := zmm h hl hloc;have hsl : off + len' * sz' + es.flatten.length <= cs.length := by rw [hfl, y2b, <- y2o, hn]; exact hroom
          obtain ⟨g1, g2⟩ := go (by rw [<- hn] at hroom; omega);obtain ⟨k1, k2⟩ := zhs h hl hloc o1 (cs' := setAt (off + len' * sz') cs es.flatten) (c' := (setAt (base + off + len' * sz') cc.toList new.toList).toArray)
           (by rw [List.size_toArray, zbg (base + off + len' * sz') cc.toList new.toList (by rw [<- hn, y2o] at hroom; simp [hnewC.1, hfl]; omega)]; exact o2) (by rw [zbg _ _ _ hsl]; exact o3) (fun i x hx => g2 i x hx hsl)
          refine ⟨_, _, I, g1, ?_, k1, k2⟩;rw [<- hn];refine .ms (by omega) (fun _ => ⟨_, hpe⟩) hcap ⟨I, rfl, c1, fun b' base' n' hb => ?_, fun hb => c3 hb⟩;rw [hloc] at hb; injection hb with hb; injection hb with q1 q2 q3; subst q1 q2 q3;exact .inr ⟨hpe, fun hh => by cases hh⟩
         ·cases hr
        ·rename_i hnf;simp only [y00, y0b] at hr;obtain ⟨rfl, rfl⟩ := hr;obtain ⟨nc, rest, r1, r2, r3, r4⟩ := grow (by omega);obtain ⟨k1, k2⟩ := zgq hd (cs := (cs.drop off).take (len' * sz') ++ es.flatten) (us := old ++ newd ++ rest) (elem := e) (fun i x hx => hold2.append hnewdC rest i x hx) (by simp [hnewdC.1, hold2.1]);refine ⟨_, _, _, r4, ?_, k1, hdE.trans k2⟩;rw [<- h.clk, <- hn];exact zin (by omega) (fun k hk => by cases hk) (fun _ => r3.symm)
       ··simp only [y00, y0b] at hr;obtain ⟨rfl, rfl⟩ := hr;rw [ziz];by_cases hfit : len' + n <= c
         ·obtain ⟨b, base, nn, cc, elem, hloc, hpe, hcn, o1, o2, go⟩ := place hfit;have hcn := hcn rfl;have hroom : base + off + (len' + n) * sz' <= nn := by
           have : (len' + n) * sz' <= c * sz' := Nat.mul_le_mul_right _ hfit;omega
          obtain ⟨g1, _⟩ := go hroom;obtain ⟨cc', elem', o1', o2', o3, o4⟩ := zmm h hl hloc;rw [o1] at o1'; injection o1' with o1'; injection o1' with q1 q2 q3; subst q1 q2;have hms : len' * sz' + n * sz' = (len' + n) * sz' := by rw [y2o]
          have hnl : new.toList.length = n * sz' := by simp [hnewC.1, hfl]
          have hrb : (setAt (base + off + len' * sz') cc.toList new.toList).length = cc.toList.length := zbg _ _ _ (by rw [hnl]; simp; omega);obtain ⟨k1, k2⟩ := zm8 h hl (cs' := (cs.drop off).take (len' * sz') ++ es.flatten) (l := .at b (base + off) nn) (w' := w.setRow b (setAt (base + off + len' * sz') cc.toList new.toList).toArray)
           (zek _ (h.hrel.fresh _ _ _ _ _ hloc)) (fun b' _ hb' => setRow_other w b b' _ (fun e => by subst e; exact hb' _ _ _ hloc))
           (fun b' base' n' e => by injection e with q1 q2 q3; subst q1; exact .inr ⟨_, _, _, hloc⟩)
           (fun ev => ⟨_, elem, setRow_heap w b cc _ elem (0, 0) o1, by simp [hrb, o2], by simp [hfl]; omega, fun i x hx => by
            refine VRel.evo ?_ ev;have hg := zc1 (base + off + len' * sz') cc.toList new.toList (by rw [hnl]; simp; omega) (base + off + i);have e5 : (setAt (base + off + len' * sz') cc.toList new.toList).toArray.getD (base + off + i) undef = ((setAt (base + off + len' * sz') cc.toList new.toList)[base + off + i]?).getD undef := by
             simp [y02]
            rw [e5, hg, hnl];have hdl : ((cs.drop off).take (len' * sz')).length = len' * sz' := by simp; omega
            by_cases g1 : i < len' * sz'
            ·rw [y0z (by omega), y13 g1, y18] at hx;rw [if_pos (by omega)];have := o4 _ x hx;simpa [y02, y2b] using this
            ·rw [y12 (by omega), hdl] at hx;have hlt : i - len' * sz' < n * sz' := by rw [<- hfl]; exact (y05.1 hx).1
             rw [if_neg (by omega), if_pos (by omega)];have := hnewC.2 _ x hx;rw [show base + off + i - (base + off + len' * sz') = i - len' * sz' from by omega]
             simpa [y02] using this⟩)
          refine ⟨_, _, _, g1, ?_, k1, k2⟩;rw [<- h.clk, <- hn];refine .ms (by omega) (fun _ => ⟨_, hpe⟩) (fun k hk => by cases hk) ⟨_, rfl, y07 _, fun b' base' n' hb => ?_, fun hb => ?_⟩
          ·rw [LI.bind_same] at hb; injection hb with hb; injection hb with q1 q2 q3; subst q1 q2 q3;exact .inr ⟨by rw [hpe]; rfl, fun _ => by omega⟩
          ·rw [LI.bind_same] at hb; cases hb
         ·obtain ⟨nc, rest, r1, r2, r3, r4⟩ := grow (by omega);have hN : N0 <= w.drew.heap.size := y0u h.hrel.base h.hrel.below.size;obtain ⟨k1, k2⟩ := zm8 hd hl (cs' := (cs.drop off).take (len' * sz') ++ es.flatten) (l := .at w.drew.heap.size 0 (old ++ newd ++ rest).size) (w' := w.drew.alloc (.cells (old ++ newd ++ rest) e))
           ((Below.refl _ _).alloc hN _) (fun b' hb' _ => Below.heap_alloc _ _ b' hb')
           (fun b' base' n' e => by injection e with q1 q2 q3; subst q1; exact .inl (y08 _))
           (fun ev => ⟨_, e, World.alloc_heap_new _ _, rfl, by simp [hnewdC.1, hold2.1], fun i x hx => by
            rw [y1b];exact (hold2.append hnewdC rest i x hx).evo ev⟩)
          refine ⟨_, _, _, r4, ?_, k1, hdE.trans k2⟩;rw [<- h.clk, <- hn];exact zin (by omega) (fun k hk => by cases hk) (fun _ => r3.symm)
     ·cases hr
    ·cases hr
   ·cases hr
  ·cases hr
theorem zwt (h : Rel w0 N0 I S a w) {ts : Array TypeId} {e : TypeId} {sz bytes : Nat} {z : List AV} (ht : ∃ t, ts[0]? = some t /\ P.underlying t = some (.slice e)) (ht2 : ∃ t2 k2, ts[1]? = some t2 /\ P.underlying t2 = some (.int k2))
  (hsz : sizeOf? P e = some sz) (hzr : zdt P e = some z) (hbt : bytesOf? P e = some bytes) (zl : z.length = sz) (s0 : sz ≠ 0) {ty : TypeId} {args : Array Value} {su : Value} {k : IntKind} {n : Int} (h0 : args[0]? = some su) (h1 : args[1]? = some (.int k n))
  {sv : AV} (hs : VRel w I.ro (some I) sv su) (hr : zf3 S sz bytes z sv n = some (v, S')) :
  ∃ u w' I', (Builtin.append_ ts ty args).run P w = .ok u w' /\ VRel w' I'.ro (some I') v u /\ Rel w0 N0 I' S' a w' /\ Evo I w I' w' := by
 unfold zf3 at hr;split at hr <;> try cases hr
 split at hr <;> try cases hr
 rename_i hc;obtain ⟨c1, c2, c3⟩ := hc;cases hs;rename_i p;obtain ⟨hd, hdE⟩ := h.drew;obtain ⟨t, ht0, htu⟩ := ht;obtain ⟨t2, k2, ht1, htu2⟩ := ht2;obtain ⟨inf, u, hi, hzz, hcr⟩ := zed hzr;have hby : inf.bytes = bytes := by
  have := hbt; unfold bytesOf? at this; rw [hi] at this; simpa using this
 have hzs : u.cells.size = sz := by rw [(hcr w (fun _ => True) none).1, zl]
 obtain ⟨m, rfl⟩ : ∃ m : Nat, n = (m : Int) := ⟨n.toNat, by omega⟩
 have wl : IntKind.i64.wrap (m : Int) = (m : Int) := wrap_small (m : Int) (by omega) (by omega);have m1 : ¬ ((m : Int) < 0) := by omega
 have m2 : ¬ ((m : Int) * (inf.bytes : Int) > 2 ^ 48) := by
  rw [hby];have : (m : Int) * (bytes : Int) <= 1048576 * 16777216 := Int.mul_le_mul (by omega) (by omega) (by omega) (by omega);omega
 have m3 : ¬ (m * sz = 0) := by
  intro e; rcases Nat.mul_eq_zero.1 e with e | e <;> omega
 have n1 : ¬ (0 + m <= 0) := by omega
 have n2 : ¬ (((0 + m : Nat) : Int) > IntKind.i64.max) := by
  have : IntKind.i64.max = 9223372036854775807 := by decide
  omega
 have n3 : ¬ (Builtin.nextslicecap (0 + m) 0 * inf.bytes > 2 ^ 48) := by
  have k1 := zm0 (0 + m) 0 (by omega);have k2 : Builtin.nextslicecap (0 + m) 0 * inf.bytes <= 4194304 * 16777216 := Nat.mul_le_mul (by omega) (by rw [hby]; exact c3);omega
 have ho : (Builtin.firstCells sz 0 (.slice p 0 0)).run P w.drew = .ok #[] w.drew := by cases p <;> simp [Builtin.firstCells, loadCells, loadCellsFrom]
 have hq : ∃ nc, 0 + m <= nc /\ (Builtin.append_ ts ty args).run P w = .ok (.slice (some ⟨w.heap.size, 0, none⟩) (0 + m) nc) (w.drew.alloc (.cells (#[] ++ Builtin.zeroCells u.cells m ++ Builtin.zeroCells u.cells (nc - (0 + m))) e)) := by
  refine ⟨Question.cut (.appendCap (0 + m) 0 e) (w.tape w.drawn (.appendCap (0 + m) 0 e)), ?_, ?_⟩
  ·simp [Question.cut]
  ·unfold Builtin.append_;simp only [ht0, h0, h1, ht1, Sem.run_bind, za2 htu, Result.andThen_ok, zc0 hsz, za2 htu2, Sem.run_pure, y0t, if_false, Bool.not_true, if_true, asInt, asIntOf, wl, m1, typeInfo, run_program, hi, m2, y1e, m3, n1, n2, n3, true_or, and_true, zeroValue, hzz];simp only [run_choose_drew, Question.forced, y0t, if_false, Result.andThen_ok, run_askRoom, ho, Sem.run_bind, Sem.run_pure, newRow, run_newObj];rfl
 obtain ⟨nc, r1, r3⟩ := hq;have hzc : CRel w.drew I.ro (some I) (zeu m z) (Builtin.zeroCells u.cells m) := by
  have := zgd (hcr w.drew I.ro (some I)) (by omega : 0 < z.length) m;unfold Builtin.zeroCells;rw [hzs, <- zl];rw [<- hzs] at zl;simpa [zl] using this
 have hc : CRel w.drew I.ro (some I) [] (#[] : Array Value) := ⟨rfl, fun i x hx => by simp at hx⟩
 obtain ⟨k1, k2⟩ := zgq hd (cs := zeu m z) (us := #[] ++ Builtin.zeroCells u.cells m ++ Builtin.zeroCells u.cells (nc - (0 + m))) (elem := e) (fun i x hx => hc.append hzc _ i x (by simpa using hx)) (by simp [hzc.1]);refine ⟨_, _, _, r3, ?_, k1, hdE.trans k2⟩;rw [<- h.clk, y1b, y1e];have : (#[] ++ Builtin.zeroCells u.cells m ++ Builtin.zeroCells u.cells (nc - (0 + m))).size = nc * sz := by
  simp [Builtin.zeroCells, hzs];rw [<- y2o]; congr 1; omega
 rw [y1b] at this;exact zin (by omega) (fun k hk => by cases hk) (fun _ => this.symm)
end
section
variable {P : Program} {w0 w : World} {N0 : Nat} {I : LI} {S S' : AS} {a : Act} {io : IOp} {v : AV}
theorem zp6 {α : Type} (i : Nat) (cs : List α) : setAt i cs [] = cs := by simp [setAt]
theorem zs9 (h : Rel w0 N0 I S a w) {id st : Nat} {cs : List AV} (hl : look id S.heap = some (st, .cells cs)) : Rel w0 N0 I { S with heap := zap id (st, .cells cs) S.heap } a w := by
 have e : ∀ i, look i (zap id (st, AObj.cells cs) S.heap) = look i S.heap := by
  intro i; rw [za0]; split
  ·rename_i hi; subst hi; exact hl.symm
  ·rfl
 exact ⟨h.clk, h.tmps, h.hrel.congr e, h.marks.congr e⟩
theorem s_copy (h : Rel w0 N0 I S a w) {t e : TypeId} {sz : Nat} {x y : Operand} {ax ay : Arg} (hu : P.underlying t = some (.slice e)) (hs : sizeOf? P e = some sz) {ts : Array TypeId} (hts : ts[0]? = some t) {ty : TypeId} {args : Array Value}
  (h0 : args[0]? = some (a.eval x)) (h1 : args[1]? = some (a.eval y)) (hx : za1 x = some ax) (hy : za1 y = some ay) (hr : iop S (.copy sz ax ay) = some (v, S')) :
  ∃ u w' I', (Builtin.copy_ ts ty args).run P w = .ok u w' /\ VRel w' I'.ro (some I') v u /\ Rel w0 N0 I' S' a w' /\ Evo I w I' w' := by
 simp only [iop] at hr;split at hr
 ·rename_i id st sz' off len cap sv hdv hsv;split at hr
  ·rename_i es st' cs hes hl;split at hr
   ·rename_i hcond;obtain ⟨rfl, rfl, hle, hcell⟩ := hcond;simp only [y00, y0b] at hr;obtain ⟨rfl, rfl⟩ := hr;have hX := h.arg hx hdv;have hY := h.arg hy hsv;generalize a.eval x = xu at hX h0;generalize a.eval y = yu at hY h1;obtain ⟨p2, n2, c2, rfl, hn2, hc2, hsz, hfc⟩ := zfu (P := P) h hY hes;cases hX with
    | @ms _ _ _ _ _ _ _ p c hlc hp hcap hcl =>
     obtain ⟨J, hJ, c1, cc2, c3⟩ := hcl;injection hJ with hJ; subst hJ;obtain ⟨arr, k1, k2⟩ := hfc (min n2 len) (Nat.min_le_left _ _);have hmin : es.take (min n2 len) = es.take len := by
      rw [hn2]; rcases Nat.le_total es.length len with g | g
      ·rw [Nat.min_eq_left g, List.take_of_length_le g, List.take_of_length_le (y08 _)]
      ·rw [Nat.min_eq_right g]
     rw [hmin] at k2;have hfl : ((es.take len).flatten).length = min n2 len * sz' := by
      rw [<- hmin, ze5 sz' _ (fun e he => hsz e (List.mem_of_mem_take he))]; simp [hn2]
     have run : ∀ w', (match p with | some q => (storeCells q arr.toList).run P w = .ok () w' | none => w' = w) -> (Builtin.copy_ ts ty args).run P w = .ok (goInt (min n2 len : Nat)) w' := by
      intro w' hw;have k1' : (Builtin.firstCells sz' (Nat.min n2 len) (.slice p2 n2 c2)).run P w = .ok arr w := k1;unfold Builtin.copy_;simp only [hts, h0, h1, Sem.run_bind, za2 hu, Result.andThen_ok, Builtin.lenOf, Sem.run_pure, zc0 hs, k1'];cases p with
      | none => simp only at hw; subst hw; simp
      | some q => simp only at hw; simp [hw]
     have hint : VRel w I.ro (some I) (.int .i64 (min es.length len : Nat)) (goInt (min n2 len : Nat)) := by rw [hn2]; exact .int
     by_cases hz : min n2 len = 0
     ·have hnil : (es.take len).flatten = [] := by
       rw [<- y0k, hfl, hz, y2n]
      have harr : arr = #[] := Array.eq_empty_of_size_eq_zero (by rw [k2.1, hnil]; rfl);subst harr;refine ⟨_, w, I, run w ?_, hint, ?_, Evo.refl I w⟩
      ·cases p <;> simp [storeCells]
      ·rw [hnil, zp6]; exact zs9 h hl
     ·have hc0 : c ≠ 0 := by omega
      obtain ⟨_, l, hl', hol⟩ := h.hrel.heap _ _ _ hl;cases l with
      | void => exact absurd (c3 hl') hc0
      | «at» b base nn =>
       rcases cc2 b base nn hl' with h00 | ⟨e1, _⟩
       ·exact absurd h00 hc0
       ·subst e1;obtain ⟨cc, elem, o1, o2, o3, o4⟩ := hol;have hal : arr.toList.length = min n2 len * sz' := by simp [k2.1, hfl]
        have hml : min n2 len * sz' <= len * sz' := Nat.mul_le_mul_right _ (Nat.min_le_right _ _);have hsl : off + ((es.take len).flatten).length <= cs.length := by rw [hfl]; omega
        have hone : ∀ u ∈ arr.toList, u.oneCell' = true := by
         intro u hu;obtain ⟨i, hi, rfl⟩ := y1g.1 hu;have hi' : i < ((es.take len).flatten).length := by rw [hfl, <- hal]; exact hi
         have hv := k2.2 i ((es.take len).flatten)[i] (by simp);have : arr.getD i undef = arr.toList[i] := by
          have hi2 : i < arr.size := by simpa using hi
          simp [y02, hi2]
         rw [this] at hv;exact zcd hv (y0h.1 hcell _ (y0x hi'))
        have rs := run_storeCells_at (P := P) b (base + off) elem arr.toList 0 cc w o1 (by rw [hal]; omega) hone;simp only [y2e] at rs;obtain ⟨g1, g2⟩ := zhs h hl hl' o1 (cs' := setAt off cs (es.take len).flatten) (c' := (setAt (base + off) cc.toList arr.toList).toArray)
         (by rw [List.size_toArray, zbg _ _ _ (by rw [hal]; simp; omega)]; exact o2) (by rw [zbg _ _ _ hsl]; exact o3) (fun i x hx => by
          rw [zc1 _ cs _ hsl, hfl] at hx;have hg := zc1 (base + off) cc.toList arr.toList (by rw [hal]; simp; omega) (base + i);have e5 : (setAt (base + off) cc.toList arr.toList).toArray.getD (base + i) undef = ((setAt (base + off) cc.toList arr.toList)[base + i]?).getD undef := by
           simp [y02]
          rw [e5, hg, hal];by_cases g1 : i < off
          ·rw [if_pos g1] at hx;rw [if_pos (by omega)];have := o4 i x hx;simpa [y02] using this
          ·rw [if_neg g1] at hx;rw [if_neg (by omega)];by_cases g2 : i < off + min n2 len * sz'
           ·rw [if_pos g2] at hx;rw [if_pos (by omega)];have := k2.2 _ x hx;rw [show base + i - (base + off) = i - off from by omega]
            simpa [y02] using this
           ·rw [if_neg g2] at hx;rw [if_neg (by omega)];have := o4 i x hx;simpa [y02] using this)
        exact ⟨_, _, I, run _ rs, hint.evo g2, g1, g2⟩
   ·cases hr
  ·cases hr
 ·cases hr
theorem zjz (mx : Bool) (k : IntKind) : ∀ (l : List AV) (us : List Value) (acc n : Int), us.length = l.length -> (∀ (i : Nat) (x : AV), l[i]? = some x -> ∃ u, us[i]? = some u /\ VRel w I.ro (some I) x u) ->
  l.foldlM (m := Option) (init := acc) (fun acc v => match v with
    | .int k' b => if k = k' then some (if mx then (if b > acc then b else acc) else (if b < acc then b else acc)) else none
    | _ => none) = some n ->
  (us.foldlM (if mx then Builtin.max2 else Builtin.min2) (.int k acc)).run P w = .ok (.int k n) w
 | [], us, acc, n, hl, _, h => by
  obtain rfl : us = [] := by simpa using hl
  simp at h; subst h; simp
 | x :: l, us, acc, n, hl, hr, h => by
  cases us with
  | nil => simp at hl
  | cons u us =>
   obtain ⟨u', hu', hx⟩ := hr 0 x (by simp);simp at hu'; subst hu';rw [List.foldlM_cons] at h;cases x <;> simp only [reduceCtorEq, Option.bind_eq_bind, Option.bind_none] at h
   rename_i k' b;cases hx;split at h
   ·rename_i hk; subst hk;simp only [y2c] at h;have ih := zjz mx k l us _ n (by simpa using hl) (fun i x hx => by simpa using hr (i + 1) x (by simpa using hx)) h;rw [List.foldlM_cons];cases mx <;> simpa [Builtin.max2, Builtin.min2] using ih
   ·cases h
theorem zs7 (h : Rel w0 N0 I S a w) {mx : Bool} {xs : Array Operand} {as : List Arg} {ts : Array TypeId} {ty : TypeId} (hc : xs.toList.mapM za1 = some as) (hr : iop S (.minmax mx as) = some (v, S')) :
  ∃ u, ((if mx then Builtin.max_ ts ty (xs.map a.eval) else Builtin.min_ ts ty (xs.map a.eval)) : Sem Value).run P w = .ok u w /\ VRel w I.ro (some I) v u /\ S' = S := by
 simp only [iop] at hr;split at hr
 ·rename_i k x l hargs;simp only [y03, y0b] at hr;obtain ⟨n, hn, rfl, rfl⟩ := hr;obtain ⟨r1, r2⟩ := h.args hc hargs;have r2' : ∀ (i : Nat) (v : AV), (AV.int k x :: l)[i]? = some v -> ∃ u, (xs.map a.eval).toList[i]? = some u /\ VRel w I.ro (some I) v u := by
   intro i v hi;have hlt : i < (xs.map a.eval).size := by rw [r1]; exact (y05.1 hi).1
   refine ⟨(xs.map a.eval).getD i undef, ?_, r2 i v hi⟩;simp only [y1r, y02, y17 hlt, y1p]
  generalize hus : (xs.map a.eval).toList = us at r2';have hul : us.length = (AV.int k x :: l).length := by rw [<- hus]; simpa using r1
  cases us with
  | nil => simp at hul
  | cons u us =>
   obtain ⟨u', hu', hx⟩ := r2' 0 _ rfl;simp at hu'; subst hu';cases hx;have f := zjz (P := P) (w := w) (I := I) mx k l us x n (by simpa using hul) (fun i y hy => by simpa using r2' (i + 1) y (by simpa using hy)) hn;refine ⟨.int k n, ?_, .int, rfl⟩;cases mx
   ·simp only [y0t, if_false] at f ⊢;simp only [Builtin.min_, hus]; exact f
   ·simp only [if_true] at f ⊢;simp only [Builtin.max_, hus]; exact f
 ·cases hr
theorem s_clear (h : Rel w0 N0 I S a w) {t e : TypeId} {sz0 : Nat} {z : List AV} {x : Operand} {ax : Arg} (hu : P.underlying t = some (.slice e)) (hs : sizeOf? P e = some sz0) (hzr : zdt P e = some z) {ts : Array TypeId} (hts : ts[0]? = some t) {ty : TypeId} {args : Array Value}
  (h0' : args[0]? = some (a.eval x)) (hx : za1 x = some ax) (hr : iop S (.clear sz0 z ax) = some (v, S')) :
  ∃ u w' I', (Builtin.clear_ ts ty args).run P w = .ok u w' /\ VRel w' I'.ro (some I') v u /\ Rel w0 N0 I' S' a w' /\ Evo I w I' w' := by
 simp only [iop] at hr;split at hr
 ·rename_i id st sz off len cap hdv;split at hr
  ·rename_i st' cs hl;split at hr
   ·rename_i hcond;obtain ⟨rfl, rfl, hle, hzl, hz0, hzc⟩ := hcond;simp only [y00, y0b] at hr;obtain ⟨rfl, rfl⟩ := hr;have hX := h.arg hx hdv;generalize a.eval x = xu at hX h0';cases hX with
    | @ms _ _ _ _ _ _ _ p c hlc hp hcap hcl =>
     obtain ⟨J, hJ, c1, cc2, c3⟩ := hcl;injection hJ with hJ; subst hJ;have hrl : (zeu len z).length = len * sz := by rw [zgu, hzl]
     rcases Nat.eq_zero_or_pos len with hl0 | hpos
     ·subst hl0;refine ⟨.tuple #[], w, I, ?_, .tup rfl (fun i x hx => by simp at hx), ?_, Evo.refl I w⟩
      ·unfold Builtin.clear_;simp only [hts, h0', Sem.run_bind, za2 hu, Result.andThen_ok];cases p <;> rfl
      ·have : setAt off cs (zeu 0 z) = cs := zp6 off cs;rw [this];exact zs9 h hl
     ·obtain ⟨q, rfl⟩ := hp (by omega);obtain ⟨inf, u, hi, hzz, hcr⟩ := zed hzr;have hzs : u.cells.size = sz := by rw [(hcr w (fun _ => True) none).1, hzl]
      have hzcr : CRel w I.ro (some I) (zeu len z) (Builtin.zeroCells u.cells len) := by
       have := zgd (hcr w I.ro (some I)) (by omega : 0 < z.length) len;unfold Builtin.zeroCells;rw [hzs, <- hzl];rw [<- hzs] at hzl;simpa [hzl] using this
      obtain ⟨arr, harr⟩ : ∃ arr, arr = Builtin.zeroCells u.cells len := ⟨_, rfl⟩
      rw [<- harr] at hzcr;obtain ⟨_, l, hl', hol⟩ := h.hrel.heap _ _ _ hl;cases l with
      | void => exact absurd (c3 hl') (by omega)
      | «at» b base nn =>
       rcases cc2 b base nn hl' with h00 | ⟨e1, _⟩
       ·exact absurd h00 (by omega)
       ·injection e1 with e1;subst e1;obtain ⟨cc, elem, o1, o2, o3, o4⟩ := hol;have hal : arr.toList.length = len * sz := by simp [hzcr.1, hrl]
        have hsl : off + (zeu len z).length <= cs.length := by rw [hrl]; omega
        have hcellz : (zeu len z).all AV.isCell = true := by
         clear hzcr hrl hsl hal
         induction len with
         | zero => rfl
         | succ k ih =>
          simp only [zeu, List.all_append, hzc, y1o];rcases Nat.eq_zero_or_pos k with h0 | h1
          ·subst h0; rfl
          ·clear ih;have : ∀ k, (zeu k z).all AV.isCell = true := by
            intro k
            induction k with
            | zero => rfl
            | succ k ih => simp only [zeu, List.all_append, hzc, y1o, ih]
           exact this k
        have hone : ∀ v ∈ arr.toList, v.oneCell' = true := by
         intro v hv;obtain ⟨i, hi, rfl⟩ := y1g.1 hv;have hi' : i < (zeu len z).length := by rw [hrl, <- hal]; exact hi
         have hvv := hzcr.2 i (zeu len z)[i] (by simp);have : arr.getD i undef = arr.toList[i] := by
          have hi2 : i < arr.size := by simpa using hi
          simp [y02, hi2]
         rw [this] at hvv;exact zcd hvv (y0h.1 hcellz _ (y0x hi'))
        have rs := run_storeCells_at (P := P) b (base + off) elem arr.toList 0 cc w o1 (by rw [hal]; omega) hone;simp only [y2e] at rs;obtain ⟨g1, g2⟩ := zhs h hl hl' o1 (cs' := setAt off cs (zeu len z)) (c' := (setAt (base + off) cc.toList arr.toList).toArray)
         (by rw [List.size_toArray, zbg _ _ _ (by rw [hal]; simp; omega)]; exact o2) (by rw [zbg _ _ _ hsl]; exact o3) (fun i x hx => by
          rw [zc1 _ cs _ hsl, hrl] at hx;have hg := zc1 (base + off) cc.toList arr.toList (by rw [hal]; simp; omega) (base + i);have e5 : (setAt (base + off) cc.toList arr.toList).toArray.getD (base + i) undef = ((setAt (base + off) cc.toList arr.toList)[base + i]?).getD undef := by
           simp [y02]
          rw [e5, hg, hal];by_cases g1 : i < off
          ·rw [if_pos g1] at hx;rw [if_pos (by omega)];have := o4 i x hx;simpa [y02] using this
          ·rw [if_neg g1] at hx;rw [if_neg (by omega)];by_cases g2 : i < off + len * sz
           ·rw [if_pos g2] at hx;rw [if_pos (by omega)];have := hzcr.2 _ x hx;rw [show base + i - (base + off) = i - off from by omega]
            simpa [y02] using this
           ·rw [if_neg g2] at hx;rw [if_neg (by omega)];have := o4 i x hx;simpa [y02] using this)
        refine ⟨.tuple #[], _, I, ?_, .tup rfl (fun i x hx => by simp at hx), g1, g2⟩;have rs' : (storeCells ⟨b, base + off, none⟩ arr.toList).run P w = .ok () (w.setRow b (setAt (base + off) cc.toList arr.toList).toArray) := rs;unfold Builtin.clear_;obtain ⟨n, rfl⟩ : ∃ n, len = n + 1 := ⟨len - 1, by omega⟩
        simp only [hts, h0', Sem.run_bind, za2 hu, Result.andThen_ok, Sem.run_pure, zeroValue, typeInfo, run_program, hi, hzz];rw [<- harr, rs'];rfl
   ·cases hr
  ·cases hr
 ·cases hr
end
section
variable {P : Program} {w0 w : World} {N0 : Nat} {I : LI} {S S' : AS} {a : Act} {v : AV}
theorem zul {a b : ByteArray} (h : a.data.toList = b.data.toList) : a = b := by
 obtain ⟨⟨a⟩⟩ := a;obtain ⟨⟨b⟩⟩ := b;simp at h;subst h; rfl
theorem bytes_beq (a b : ByteArray) : (a == b) = (a.data.toList == b.data.toList) := by
 rw [Bool.eq_iff_iff, MapKept.bytes_beq, beq_iff_eq];exact ⟨fun e => by rw [e], zul⟩
theorem zxn {t : TypeId} {z : AV} (hz : ztl P t = some z) {ro : Nat -> Prop} {L : Option LI} : ∃ inf u, P.info? t = some inf /\ inf.zero = some u /\ VRel w ro L z u := by
 unfold ztl at hz;split at hz <;> try cases hz
 rename_i inf hi;split at hz <;> try cases hz
 rename_i u hu;split at hz
 ·cases hz
 ·exact ⟨inf, u, hi, hu, zgs 4 u z hz⟩
theorem crel2' {w : World} {ro : Nat -> Prop} {L : Option LI} {a b : AV} {u v : Value} (h : VRel w ro L a u) (h2 : VRel w ro L b v) : CRel w ro L [a, b] #[u, v] := by
 refine ⟨rfl, fun i x hx => ?_⟩
 match i with
 | 0 => simp at hx; subst hx; exact h
 | 1 => simp at hx; subst hx; exact h2
 | i + 2 => simp at hx
theorem zfb {kt : TypeId} {kd : EqK} (hk : zep P kt = some kd) (e : Bool) (n : Nat) (u : Value) (w : World) : (Instr.checkKey e (n + 1) kt u).run P w = .ok () w := by
 unfold zep at hk;split at hk <;> try cases hk
 all_goals (rename_i hu; simp only [Instr.checkKey, Sem.run_bind, za2 hu, Result.andThen_ok]; rfl)
theorem zge {kt : TypeId} {kd : EqK} {d : TypeDesc} (hk : zep P kt = some kd) (hd : P.underlying kt = some d) {x y : AV} {u u' : Value} {L L' : Option LI} {ro ro' : Nat -> Prop} (hx : VRel w ro L x u) (hy : VRel w ro' L' y u') {b : Bool} (h : eqK kd x y = some b) : Instr.sameNow d u u' = some b := by
 unfold zep at hk;rw [hd] at hk;split at hk <;> try cases hk
 ·rename_i k0 hd0;injection hd0 with hd0; subst hd0;unfold eqK at h;split at h <;> try (simp at *; done)
  rename_i k n k' n';cases hx; cases hy;split at h
  ·rename_i hkk; simp only [y00] at h; simp only [Instr.sameNow, if_pos hkk, h]
  ·cases h
 ·rename_i hd0;injection hd0 with hd0; subst hd0;unfold eqK at h;split at h <;> try (simp at *; done)
  cases hx; cases hy;simp only [y00] at h; simp only [Instr.sameNow, h]
 ·rename_i hd0;injection hd0 with hd0; subst hd0;unfold eqK at h;split at h <;> try (simp at *; done)
  rename_i s t;cases hx; cases hy;rename_i t1 t2;simp only [y00] at h;simp only [Instr.sameNow, <- h, y00];exact bytes_beq t1 t2
def ERel (w : World) (ro : Nat -> Prop) (L : Option LI) (es : List (AV × AV)) (l : List MapEntry) : Prop :=
 l.length = es.length /\ ∀ (i : Nat) (k v : AV), es[i]? = some (k, v) -> ∃ e : MapEntry, l[i]? = some e /\ VRel w ro L k e.key /\ VRel w ro L v e.val
theorem ERel.tail {w : World} {ro : Nat -> Prop} {L : Option LI} {x : AV × AV} {es : List (AV × AV)} {e : MapEntry} {l : List MapEntry} (h : ERel w ro L (x :: es) (e :: l)) : ERel w ro L es l :=
 ⟨by have := h.1; simpa using this, fun i k v hi => by obtain ⟨e', h1, h2⟩ := h.2 (i + 1) k v (by simpa using hi); exact ⟨e', by simpa using h1, h2⟩⟩
theorem ERel.head {w : World} {ro : Nat -> Prop} {L : Option LI} {k v : AV} {es : List (AV × AV)} {e : MapEntry} {l : List MapEntry} (h : ERel w ro L ((k, v) :: es) (e :: l)) : VRel w ro L k e.key /\ VRel w ro L v e.val := by
 obtain ⟨e', h1, h2⟩ := h.2 0 k v rfl;simp at h1; subst h1; exact h2
theorem zof {kt : TypeId} {kd : EqK} {d : TypeDesc} (hk : zep P kt = some kd) (hd : P.underlying kt = some d) {L : Option LI} {ro : Nat -> Prop} {x : AV} {u : Value} (hx : VRel w ro L x u) :
  ∀ {es : List (AV × AV)} {l : List MapEntry} (j : Nat) {r : Option AV}, ERel w ro L es l -> zdx kd x es = some r ->
   (∃ i val y, Instr.findNow d u l j = some (some (i, val)) /\ r = some y /\ VRel w ro L y val) \/ (Instr.findNow d u l j = some none /\ r = none)
 | [], [], j, r, _, h => by
  simp only [zdx, y00] at h; subst h;exact .inr ⟨rfl, rfl⟩
 | (k, v) :: es, e :: l, j, r, hr, h => by
  obtain ⟨h1, h2⟩ := hr.head;simp only [zdx] at h;split at h
  ·rename_i hb;simp only [y00] at h; subst h;have := zge (P := P) hk hd hx h1 hb;exact .inl ⟨j, e.val, v, by simp only [Instr.findNow, this], rfl, h2⟩
  ·rename_i hb;have := zge (P := P) hk hd hx h1 hb;simp only [Instr.findNow, this];exact zof hk hd hx (j + 1) hr.tail h
  ·cases h
 | [], _ :: _, _, _, hr, _ => by have := hr.1; simp at this
 | _ :: _, [], _, _, hr, _ => by have := hr.1; simp at this
theorem zw3 (h : Rel w0 N0 I S a w) {id st : Nat} {es : List (AV × AV)} (hl : look id S.heap = some (st, .map es)) {u : Value} (hm : VRel w I.ro (some I) (.mapv id st) u) :
  ∃ b base n l q, u = .map (some b) /\ I.loc id st = some (.at b base n) /\ w.heap[b]? = some (.map l q) /\ ERel w I.ro (some I) es l.toList := by
 obtain ⟨_, lc, hlc, hol⟩ := h.hrel.heap _ _ _ hl;cases lc with
 | void => exact hol.elim
 | «at» b base n =>
  obtain ⟨l, q, h1, h2, h3⟩ := hol;cases hm with
  | mapv hk hh =>
   obtain ⟨J, hJ, _, hu⟩ := hh;injection hJ with hJ; subst hJ;exact ⟨b, base, n, l, q, hu b base n hlc, hlc, h1, by simpa using h2, fun i k v hi => by obtain ⟨e, e1, e2⟩ := h3 i k v hi; exact ⟨e, by simpa using e1, e2⟩⟩
theorem s_mapget (h : Rel w0 N0 I S a w) {t kt et : TypeId} {kd : EqK} {z : AV} {ok : Bool} (ht : P.underlying t = some (.map kt et)) (hk : zep P kt = some kd) (hz : ztl P et = some z)
  {id st : Nat} {es : List (AV × AV)} (hl : look id S.heap = some (st, .map es)) {mu ku : Value} (hm : VRel w I.ro (some I) (.mapv id st) mu) {kv : AV} (hkv : VRel w I.ro (some I) kv ku) {r : Option AV} (hr : zdx kd kv es = some r) :
  ∃ u, (Instr.lookup t mu ku ok).run P w = .ok u w /\ VRel w I.ro (some I) (zmy ok z r) u := by
 obtain ⟨b, base, n, l, q, rfl, _, hb, hE⟩ := zw3 h hl hm;obtain ⟨d, hd⟩ : ∃ d, P.underlying kt = some d := by
  unfold zep at hk;cases hu : P.underlying kt with
  | none => rw [hu] at hk; cases hk
  | some d => exact ⟨d, rfl⟩
 obtain ⟨inf, zu, hi, hzz, hzr⟩ := zxn (w := w) (ro := I.ro) (L := some I) hz;rcases zof (P := P) hk hd hkv 0 hE hr with ⟨i, val, y, h1, rfl, h2⟩ | ⟨h1, rfl⟩
 ·refine ⟨if ok then .tuple #[val, .bool true] else val, ?_, ?_⟩
  ·unfold Instr.lookup;simp only [Sem.run_bind, za2 ht, Result.andThen_ok, MapKept.run_getObj_map hb, Sem.run_pure, zfb hk _ 9999, Instr.findKey, za2 hd, h1]
  ·cases ok with
   | false => exact h2
   | true => exact .tup rfl (crel2' h2 .bool).2
 ·refine ⟨if ok then .tuple #[zu, .bool false] else zu, ?_, ?_⟩
  ·unfold Instr.lookup;simp only [Sem.run_bind, za2 ht, Result.andThen_ok, MapKept.run_getObj_map hb, Sem.run_pure, zfb hk _ 9999, Instr.findKey, za2 hd, h1, zeroValue, typeInfo, run_program, hi, hzz]
  ·cases ok with
   | false => exact hzr
   | true => exact .tup rfl (crel2' hzr .bool).2
theorem zp8 {kt : TypeId} {kd : EqK} {d : TypeDesc} (hk : zep P kt = some kd) (hd : P.underlying kt = some d) {L : Option LI} {ro : Nat -> Prop} {x y : AV} {u uv : Value} (hx : VRel w ro L x u) (hy : VRel w ro L y uv) :
  ∀ {es : List (AV × AV)} {l : List MapEntry} (j : Nat) {es' : List (AV × AV)}, ERel w ro L es l -> zdy kd x y es = some es' ->
   (∃ (i : Nat) (val : Value) (e : MapEntry), Instr.findNow d u l j = some (some (j + i, val)) /\ l[i]? = some e /\ Instr.sameNow d u e.key = some true /\ ERel w ro L es' (l.set i { e with key := u, val := uv })) \/
   (Instr.findNow d u l j = some none /\ ∀ born, ERel w ro L es' (l ++ [{ key := u, val := uv, born := born }]))
 | [], [], j, es', _, h => by
  simp only [zdy, y00] at h; subst h;refine .inr ⟨rfl, fun born => ⟨rfl, fun i k v hi => ?_⟩⟩
  match i with
  | 0 => simp at hi; obtain ⟨rfl, rfl⟩ := hi; exact ⟨_, rfl, hx, hy⟩
  | i + 1 => simp at hi
 | (k, v) :: es, e :: l, j, es', hr, h => by
  obtain ⟨h1, h2⟩ := hr.head;simp only [zdy] at h;split at h
  ·rename_i hb;simp only [y00] at h; subst h;have hs := zge (P := P) hk hd hx h1 hb;refine .inl ⟨0, e.val, e, by simp only [Instr.findNow, hs]; rfl, rfl, hs, by have := hr.1; simpa using this, fun i k' v' hi => ?_⟩
   match i with
   | 0 => simp at hi; obtain ⟨rfl, rfl⟩ := hi; exact ⟨_, rfl, hx, hy⟩
   | i + 1 => obtain ⟨e', e1, e2⟩ := hr.tail.2 i k' v' (by simpa using hi); exact ⟨e', by simpa using e1, e2⟩
  ·rename_i hb;have hs := zge (P := P) hk hd hx h1 hb;simp only [y03] at h;obtain ⟨es1, h3, rfl⟩ := h;have cons : ∀ {l' : List MapEntry}, ERel w ro L es1 l' -> ERel w ro L ((k, v) :: es1) (e :: l') := by
    intro l' h';refine ⟨by simp [h'.1], fun i k' v' hi => ?_⟩
    match i with
    | 0 => simp at hi; obtain ⟨rfl, rfl⟩ := hi; exact ⟨e, rfl, h1, h2⟩
    | i + 1 => obtain ⟨e', e1, e2⟩ := h'.2 i k' v' (by simpa using hi); exact ⟨e', by simpa using e1, e2⟩
   rcases zp8 hk hd hx hy (j + 1) hr.tail h3 with ⟨i, val, e', a1, a2, a3, a4⟩ | ⟨a1, a2⟩
   ·exact .inl ⟨i + 1, val, e', by simp only [Instr.findNow, hs, a1]; congr 3; omega, by simpa using a2, a3, by simpa using cons a4⟩
   ·exact .inr ⟨by simp only [Instr.findNow, hs, a1], fun born => by simpa using cons (a2 born)⟩
  ·cases h
 | [], _ :: _, _, _, hr, _ => by have := hr.1; simp at this
 | _ :: _, [], _, _, hr, _ => by have := hr.1; simp at this
theorem zww {kt : TypeId} {kd : EqK} {d : TypeDesc} (hk : zep P kt = some kd) (hd : P.underlying kt = some d) {u u' : Value} (h : Instr.sameNow d u u' = some true) : Instr.sameBits 10000 u' u = true := by
 unfold zep at hk;rw [hd] at hk;show Instr.sameBits (9999 + 1) u' u = true;split at hk <;> try cases hk
 all_goals
  rename_i hd0;injection hd0 with hd0; subst hd0;unfold Instr.sameNow at h;split at h <;> try (simp at *; done)
 ·split at h
  ·rename_i hkk; subst hkk; simp at h; subst h; simp [Instr.sameBits]
  ·cases h
 ·simp at h; subst h; simp [Instr.sameBits]
 ·simp only [y00] at h;obtain rfl := (MapKept.bytes_beq _ _).1 h;simp only [Instr.sameBits];exact (MapKept.bytes_beq _ _).2 rfl
theorem s_mapset (h : Rel w0 N0 I S a w) {t kt et : TypeId} {kd : EqK} (ht : P.underlying t = some (.map kt et)) (hk : zep P kt = some kd) {m k y : AV} {mu ku yu : Value}
  (hm : VRel w I.ro (some I) m mu) (hkv : VRel w I.ro (some I) k ku) (hy : VRel w I.ro (some I) y yu) (hr : S.mapset kd m k y = some S') :
  ∃ w' I', (Instr.mapUpdate t mu ku yu).run P w = .ok () w' /\ Rel w0 N0 I' S' a w' /\ Evo I w I' w' := by
 unfold AS.mapset at hr;split at hr <;> try cases hr
 rename_i id st;split at hr <;> try cases hr
 rename_i st' es hl;split at hr <;> try cases hr
 rename_i hst; subst hst;simp only [y03] at hr;obtain ⟨es', hes, rfl⟩ := hr;obtain ⟨b, base, n, l, q, rfl, hloc, hb, hE⟩ := zw3 h hl hm;obtain ⟨d, hd⟩ : ∃ d, P.underlying kt = some d := by
  unfold zep at hk;cases hu : P.underlying kt with
  | none => rw [hu] at hk; cases hk
  | some d => exact ⟨d, rfl⟩
 have hN := h.hrel.fresh _ _ _ _ _ hloc;have hbs : b < w.heap.size := (y0e.1 hb).1;have fin : ∀ (l' : Array MapEntry) (q' : Nat), ERel w I.ro (some I) es' l'.toList -> (Instr.mapUpdate t (.map (some b)) ku yu).run P w = .ok () (w.putObj b (.map l' q')) ->
   ∃ w' I', (Instr.mapUpdate t (.map (some b)) ku yu).run P w = .ok () w' /\ Rel w0 N0 I' { S with heap := zap id (st', .map es') S.heap } a w' /\ Evo I w I' w' := by
  intro l' q' hE' hrun;obtain ⟨k1, k2⟩ := h.hrel.write (w' := w.putObj b (.map l' q')) (o' := .map es') ⟨rfl, rfl, rfl, by simp, fun k hk => World.putObj_heap_other (by omega)⟩ hloc hl (fun b' hb' => World.putObj_heap_other hb')
   (fun ev => ⟨l', q', World.putObj_heap_same hbs, by have := hE'.1; simpa using this, fun i k v hi => by obtain ⟨e, e1, e2, e3⟩ := hE'.2 i k v hi; exact ⟨e, by simpa using e1, e2.evo ev, e3.evo ev⟩⟩)
  exact ⟨_, I, hrun, ⟨h.clk, h.tmps.evo k2, k1, h.marks.write fun s e => by rw [hl] at e; cases e⟩, k2⟩
 rcases zp8 (P := P) hk hd hkv hy 0 hE hes with ⟨i, val, e, h1, h2, h3, h4⟩ | ⟨h1, h2⟩
 ·refine fin (l.modify i fun e => { e with key := ku, val := yu }) q ?_ ?_
  ·have hi : i < l.size := by have := (y05.1 h2).1; simpa using this
   have he : l.toList[i]? = some e := h2;have : (l.modify i fun e => { e with key := ku, val := yu }).toList = l.toList.set i { e with key := ku, val := yu } := by
    rw [Array.toList_modify];apply List.ext_getElem?;intro j;rw [List.getElem?_modify, List.getElem?_set];by_cases hj : i = j
    ·subst hj; have e3 : l[i] = e := by simpa [hi] using he
     simp [hi, e3]
    ·simp [hj]
   rw [this]; exact h4
  ·unfold Instr.mapUpdate;have hkey : ((l[i]?).map (·.key)).getD ku = e.key := by
    have : l[i]? = some e := by simpa using h2
    rw [this]; rfl
   simp only [Sem.run_bind, za2 ht, Result.andThen_ok, MapKept.run_getObj_map hb, zfb hk _ 9999, Instr.findKey, za2 hd, h1, Sem.run_pure, y1b, hkey, Instr.keyThatStays, zww (P := P) hk hd h3, if_true, MapKept.run_setObj_map _ hb];rfl
 ·refine fin (l.push { key := ku, val := yu, born := q }) (q + 1) (by simpa using h2 q) ?_;unfold Instr.mapUpdate;simp only [Sem.run_bind, za2 ht, Result.andThen_ok, MapKept.run_getObj_map hb, zfb hk _ 9999, Instr.findKey, za2 hd, h1, Sem.run_pure, MapKept.run_setObj_map _ hb];rfl
theorem s_mkmap (h : Rel w0 N0 I S a w) (t : TypeId) :
  ∃ u w' I', (Instr.makeMap t none).run P w = .ok u w' /\ VRel w' I'.ro (some I') (.mapv S.next S.clk) u /\ Rel w0 N0 I' (S.new (.map [])) a w' /\ Evo I w I' w' := by
 have hN : N0 <= w.heap.size := y0u h.hrel.base h.hrel.below.size;obtain ⟨k1, k2⟩ := h.hrel.bind (w' := w.alloc (.map #[] 0)) (id := S.next) (next' := S.next + 1) (l := .at w.heap.size 0 0) (o := .map []) ((Below.refl _ _).alloc hN _)
  (fun b hb' _ => Below.heap_alloc w _ b hb') (fun b base n e => by injection e with e1 e2 e3; subst e1; exact .inl (y08 _))
  (fun e => ⟨#[], 0, World.alloc_heap_new w _, rfl, fun i k v hi => by simp at hi⟩) (y0y _) (y07 _)
 refine ⟨.map (some w.heap.size), w.alloc (.map #[] 0), _, ?_, ?_, ⟨?_, h.tmps.evo k2, ?_, ?_⟩, k2⟩
 ·unfold Instr.makeMap;simp only [Sem.run_bind, run_newObj, Sem.run_pure, Result.andThen_ok];rfl
 ·refine .mapv ⟨_, rfl⟩ ⟨_, rfl, by simp [LI.bind, h.clk], fun b base n hb => ?_⟩;rw [<- h.clk, LI.bind_same] at hb;injection hb with hb; injection hb with q1 q2 q3; subst q1; rfl
 ·simp [LI.bind, AS.new, h.clk]
 ·refine k1.congr fun i => ?_;simp only [AS.new, <- h.clk]; rw [za0, zak]
 ·refine (h.marks.bind (id := S.next) (s := I.clk) (o := .map []) fun st e => ?_).congr fun i => ?_
  ·rw [h.hrel.free _ (y08 _)] at e; cases e
  ·simp only [AS.new, <- h.clk]; rw [za0, zak]
end
section
variable {P : Program} {w0 w : World} {N0 : Nat} {I : LI} {S S' : AS} {a : Act} {io : IOp} {v : AV}
theorem new_relO (h : Rel w0 N0 I S a w) {o : AObj} {ob : Obj} {n : Nat} (ho : Evo I w (I.bind S.next (.at w.heap.size 0 n)) (w.alloc ob) -> ORel (w.alloc ob) (I.bind S.next (.at w.heap.size 0 n)) (.at w.heap.size 0 n) o) :
  Rel w0 N0 (I.bind S.next (.at w.heap.size 0 n)) (S.new o) a (w.alloc ob) /\ Evo I w (I.bind S.next (.at w.heap.size 0 n)) (w.alloc ob) := by
 have hN : N0 <= w.heap.size := y0u h.hrel.base h.hrel.below.size;have hb : Below N0 w (w.alloc ob) := (Below.refl _ _).alloc hN _;have key := h.hrel.bind (w' := w.alloc ob) (id := S.next) (next' := S.next + 1) (l := .at w.heap.size 0 n) (o := o) hb
  (fun b hb' _ => Below.heap_alloc w _ b hb')
  (fun b base n e => by injection e with e1 e2 e3; subst e1; exact .inl (y08 _))
  ho (y0y _) (y07 _)
 obtain ⟨k1, k2⟩ := key;have hlook : ∀ i, look i ((S.next, I.clk, o) :: S.heap) = look i (zap S.next (I.clk, o) S.heap) := by
  intro i; rw [za0, zak]
 refine ⟨⟨?_, h.tmps.evo k2, ?_, ?_⟩, k2⟩
 ·simp [LI.bind, AS.new, h.clk]
 ·refine ⟨k1.below, k1.base, fun i st o hi => ?_, fun i st l hl => ?_, k1.inj, k1.fresh, fun i hi => ?_, k1.okN, k1.glob⟩
  ·simp only [AS.new, <- h.clk] at hi; rw [hlook] at hi; exact k1.heap i st o hi
  ·obtain ⟨o, ho⟩ := k1.locs i st l hl;exact ⟨o, by simp only [AS.new, <- h.clk]; rw [hlook]; exact ho⟩
  ·simp only [AS.new, <- h.clk]; rw [hlook]; exact k1.free i hi
 ·refine (h.marks.bind (id := S.next) (s := I.clk) (o := o) fun st e => ?_).congr fun i => ?_
  ·rw [h.hrel.free _ (y08 _)] at e; cases e
  ·simp only [AS.new, <- h.clk]; rw [za0, zak]
theorem zro (h : Rel w0 N0 I S a w) {T : TypeId} {full : Bool} {cs : List AV} {us : Array Value} (hc : ∀ (i : Nat) (x : AV), cs[i]? = some x -> VRel w I.ro (some I) x (us.getD i undef)) (hle : cs.length <= us.size) (hf : full = true -> us.size = cs.length) :
  Rel w0 N0 (I.bind S.next (.at w.heap.size 0 us.size)) (S.new (.typed T full cs)) a (w.alloc (.cells us T)) /\ Evo I w (I.bind S.next (.at w.heap.size 0 us.size)) (w.alloc (.cells us T)) :=
 new_relO h fun e => ⟨rfl, hf, us, World.alloc_heap_new w _, rfl, by omega, fun i x hx => by rw [y1b]; exact (hc i x hx).evo e⟩
theorem zjb (h : Rel w0 N0 I S a w) {id st : Nat} {T : TypeId} {full : Bool} {cs : List AV} (hl : look id S.heap = some (st, .typed T full cs)) {b base n : Nat} (hloc : I.loc id st = some (.at b base n)) :
  base = 0 /\ (full = true -> n = cs.length) /\ ∃ c, w.heap[b]? = some (.cells c T (0, 0)) /\ c.size = n /\ cs.length <= n /\ ∀ (i : Nat) (x : AV), cs[i]? = some x -> VRel w I.ro (some I) x (c.getD i undef) := by
 obtain ⟨_, l, hl', hol⟩ := h.hrel.heap _ _ _ hl;rw [hloc] at hl'; injection hl' with hl'; subst hl';obtain ⟨rfl, h1, c, h2, h3, h4, h5⟩ := hol;exact ⟨rfl, h1, c, h2, h3, by omega, fun i x hx => by have := h5 i x hx; rwa [y1b] at this⟩
theorem s_boxT (h : Rel w0 N0 I S a w) {t : TypeId} {x : Operand} {ax : Arg} (hx : za1 x = some ax) (hr : iop S (.boxT t ax) = some (v, S')) :
  ∃ u w' I', (Instr.box t (a.eval x)).run P w = .ok u w' /\ VRel w' I'.ro (some I') v u /\ Rel w0 N0 I' S' a w' /\ Evo I w I' w' := by
 simp only [iop] at hr;split at hr
 ·rename_i xv hxv;split at hr
  ·rename_i cs hcs;simp only [y00, y0b] at hr;obtain ⟨rfl, rfl⟩ := hr;obtain ⟨c1, c2⟩ := zh2 (h.arg hx hxv) hcs;obtain ⟨k1, k2⟩ := zro h (T := t) (full := true) c2 (by omega) (fun _ => c1);refine ⟨.pointer (some ⟨w.heap.size, 0, none⟩), _, _, ?_, ?_, k1, k2⟩
   ·simp [Instr.box, newVar, newRow]
   ·rw [<- h.clk]; exact zn9
  ·cases hr
 ·cases hr
theorem zry (h : Rel w0 N0 I S a w) {id st off : Nat} {o : AObj} (hl : look id S.heap = some (st, o)) {u : Value} (hv : VRel w I.ro (some I) (.mptr id st off) u) :
  ∃ b base n, I.loc id st = some (.at b base n) /\ u = .pointer (some ⟨b, base + off, none⟩) := by
 cases hv with
 | mptr hk hcl =>
  obtain ⟨J, hJ, c1, c0, c2⟩ := hcl;injection hJ with hJ; subst hJ;obtain ⟨_, l, hl', hol⟩ := h.hrel.heap _ _ _ hl;cases l with
  | void => exact absurd hl' c0
  | «at» b base n => exact ⟨b, base, n, hl', c2 _ _ _ hl'⟩
theorem zoa {n : Int} (h0 : 0 <= n) (h1 : n <= 127) : Utf8.encode n = ⟨#[UInt8.ofNat n.toNat]⟩ := by
 have hv : Utf8.valid n = true := by
  unfold Utf8.valid;simp;omega
 unfold Utf8.encode;simp only [hv, if_true];rw [if_pos (by omega)]
theorem s_peq (h : Rel w0 N0 I S a w) {t e : TypeId} {j : TypeInfo} {x y : Operand} {ax ay : Arg} {neg : Bool} (hu : P.underlying t = some (.pointer e)) (hj : P.info? e = some j) (hx : za1 x = some ax) (hy : za1 y = some ay)
  (hr : iop S (.peq neg ax ay) = some (v, S')) : ∃ r, v = .bool r /\ S' = S /\ (execOp a.eval ⟨none, .binOp (if neg then .neq else .eql) t x y t, t, "", #[], none⟩).run P w = .ok (.value (.bool r)) w := by
 simp only [iop] at hr;split at hr
 case h_2 => cases hr
 rename_i xv yv hxv hyv;split at hr
 case h_2 => cases hr
 rename_i r hpq;simp only [y00, y0b] at hr;obtain ⟨rfl, rfl⟩ := hr;have h1 := h.arg hx hxv;have h2 := h.arg hy hyv;generalize he1 : a.eval x = u1 at h1;generalize he2 : a.eval y = u2 at h2;refine ⟨_, rfl, rfl, ?_⟩;have nilA : ∀ (p q : Option Addr), p = none \/ q = none -> ∀ d, (Op.equalIn (d + 1) t (.pointer p) (.pointer q)).run P w = .ok (p.isNone && q.isNone) w := by
  intro p q hpq d;rcases p with _ | p <;> rcases q with _ | q <;> simp [Op.equalIn, run_underlying hu] at hpq ⊢
 have fin : ∀ (p q : Option Addr) (r : Bool), u1 = .pointer p -> u2 = .pointer q -> (∀ d, (Op.equalIn (d + 1) t (.pointer p) (.pointer q)).run P w = .ok r w) ->
   (execOp a.eval ⟨none, .binOp (if neg then .neq else .eql) t x y t, t, "", #[], none⟩).run P w = .ok (.value (.bool (if neg then !r else r))) w := by
  intro p q r e1 e2 e3;subst e1 e2;cases neg <;> simp [execOp, he1, he2, zam (P := P) (w := w), Go.binOp, Op.equal, Op.maxDepth, e3 9999]
 unfold AS.peq at hpq;split at hpq
 ·simp only [y00] at hpq; subst hpq;cases h1; cases h2;exact fin _ _ _ rfl rfl (nilA none none (.inl rfl))
 ·simp only [y00] at hpq; subst hpq;cases h1;cases h2 with
  | mptr hk _ => obtain ⟨p, rfl⟩ := hk; exact fin _ _ _ rfl rfl (nilA none (some p) (.inl rfl))
 ·simp only [y00] at hpq; subst hpq;cases h2;cases h1 with
  | mptr hk _ => obtain ⟨p, rfl⟩ := hk; exact fin _ _ _ rfl rfl (nilA (some p) none (.inr rfl))
 ·split at hpq
  ·rename_i hc;obtain ⟨rfl, rfl, rfl⟩ := hc;split at hpq
   ·rename_i st2 T full cs hl;split at hpq
    ·rename_i hst; subst hst;simp only [y00] at hpq; subst hpq;obtain ⟨b, base, n, hloc, rfl⟩ := zry h hl h1;obtain ⟨b', base', n', hloc', rfl⟩ := zry h hl h2;rw [hloc] at hloc'; injection hloc' with hloc'; injection hloc' with q1 q2 q3; subst q1 q2 q3;refine fin _ _ _ rfl rfl fun d => ?_;simp [Op.equalIn, run_underlying hu, sizeOf, typeInfo, hj, run_sameAddr_same]
    ·cases hpq
   ·cases hpq
  ·cases hpq
 ·cases hpq
theorem s_uptr (h : Rel w0 N0 I S a w) {src dst : TypeId} {ok : List (TypeId × Nat)} {x : Operand} {ax : Arg} (hok : zxd P src dst = some ok) (hx : za1 x = some ax) (hr : iop S (.uptr ok ax) = some (v, S')) :
  ∃ u, (convert src dst (a.eval x)).run P w = .ok u w /\ VRel w I.ro (some I) v u /\ S' = S := by
 simp only [iop] at hr;split at hr
 case h_2 => cases hr
 rename_i id st hxv;split at hr
 case h_2 => cases hr
 rename_i st' T cs hl;split at hr
 case isFalse => cases hr
 rename_i hc;obtain ⟨rfl, hmem⟩ := hc;simp only [y00, y0b] at hr;obtain ⟨rfl, rfl⟩ := hr;have h1 := h.arg hx hxv;obtain ⟨b, base, n, hloc, hu⟩ := zry h hl h1;obtain ⟨rfl, hf, c, hb, hcs, _, _⟩ := zjb h hl hloc;have hn := hf rfl;have hsh : w.shape? b = some (T, cs.length) := by simp [World.shape?, hb, hcs, hn]
 rw [hu] at h1 ⊢;refine ⟨_, ?_, h1, rfl⟩;have hmem := y1m.1 (show ok.contains (T, cs.length) = true from hmem)
 unfold zxd at hok;split at hok
 ·rename_i t hs hd;split at hok
  ·rename_i m hm;split at hok
   ·cases hok
   ·rename_i hm0;simp only [y00] at hok; subst hok;obtain ⟨T', _, hT⟩ := y2m.1 hmem;simp only [y0w] at hT;obtain ⟨m', hm', hT⟩ := hT;split at hT
    ·rename_i h0;simp only [y00, y0b] at hT;obtain ⟨rfl, rfl⟩ := hT;simp only [sizeOf?, y03] at hm;obtain ⟨j, hj, rfl⟩ := hm;exact Lib.run_to_unsafe w ⟨b, 0 + 0, none⟩ hs hd hj hm0 hsh h0
    ·cases hT
  ·cases hok
 ·rename_i u hs hd;split at hok
  ·rename_i m hm;simp only [y00] at hok; subst hok;obtain ⟨T', _, hT⟩ := y2m.1 hmem;simp only [y0w] at hT;obtain ⟨m', hm', hT⟩ := hT;split at hT
   ·rename_i h0;simp only [y00, y0b] at hT;obtain ⟨rfl, rfl⟩ := hT;simp only [sizeOf?, y03] at hm;obtain ⟨j, hj, rfl⟩ := hm;exact Lib.run_from_unsafe w ⟨b, 0 + 0, none⟩ hs hd hj hsh h0
   ·cases hT
  ·cases hok
 ·cases hok
theorem s_sdata (h : Rel w0 N0 I S a w) {ts : Array TypeId} {ty : TypeId} {x : Operand} {ax : Arg} (hx : za1 x = some ax) (hr : iop S (.sdata ax) = some (v, S')) :
  ∃ u, (Builtin.unsafeSliceData_ ts ty #[a.eval x]).run P w = .ok u w /\ VRel w I.ro (some I) v u /\ S' = S := by
 simp only [iop] at hr;split at hr
 case h_2 => cases hr
 rename_i id st len cap hxv;simp only [y00, y0b] at hr;obtain ⟨rfl, rfl⟩ := hr;have h1 := h.arg hx hxv;generalize a.eval x = u at h1;cases h1 with
 | @ms _ _ _ _ _ _ _ p c hl hp hcap hcl =>
  obtain ⟨J, hJ, c1, c2, c3⟩ := hcl;injection hJ with hJ; subst hJ;obtain ⟨q, rfl⟩ := hp (by omega);refine ⟨.pointer (some q), Lib.run_unsafeSliceData_row w ts ty q _ c (by omega), .mptr ⟨_, rfl⟩ ⟨I, rfl, c1, fun hv => ?_, fun b base n hb => ?_⟩, rfl⟩
  ·have := c3 hv; omega
  ·rcases c2 b base n hb with h0 | ⟨h0, _⟩
   ·omega
   ·injection h0 with h0; rw [h0]
theorem zjk : ∀ {l : List AV} {bs : List UInt8}, zjj l = some bs -> bs.length = l.length /\ ∀ (j : Nat) (x : UInt8), bs[j]? = some x -> l[j]? = some (.int .u8 x.toNat)
 | [], bs, h => by simp [zjj] at h; subst h; simp
 | v :: l, bs, h => by
  unfold zjj at h;split at h
  ·rename_i heq; cases heq
  ·rename_i n l' heq;injection heq with e1 e2; subst e1 e2;split at h
   ·rename_i hc;simp only [y03] at h;obtain ⟨r, hr, rfl⟩ := h;obtain ⟨k1, k2⟩ := zjk hr;refine ⟨by simp [k1], fun j x hx => ?_⟩;cases j with
    | zero =>
     simp only [y1h, y00] at hx ⊢;subst hx;have : (n.toNat.toUInt8.toNat : Int) = n := by
      have : n.toNat < 256 := by omega
      simp [Nat.toUInt8, UInt8.toNat_ofNat', Nat.mod_eq_of_lt this]; omega
     rw [this]
    | succ j => simpa using k2 j x (by simpa using hx)
   ·cases h
  ·cases h
theorem zpt (w : World) (a : Addr) (n : Nat) (b i : Nat) : (w.freeze a n).cell? ⟨b, i, none⟩ = w.cell? ⟨b, i, none⟩ := by
 unfold World.freeze;split
 ·rfl
 ·simp only [World.cell?];rw [Array.getElem?_modify];by_cases e : a.block = b
  ·rw [if_pos e];subst e;cases hb : w.heap[a.block]? with
   | none => rfl
   | some o => cases o <;> rfl
  ·rw [if_neg e]
theorem zpu (w : World) (a : Addr) (n : Nat) {b : Nat} (hb : b ≠ a.block) : (w.freeze a n).heap[b]? = w.heap[b]? := by
 unfold World.freeze;split
 ·rfl
 ·simp only [Array.getElem?_modify];rw [if_neg (fun e => hb e.symm)]
theorem HRel.out {w' : World} {hp : List (Nat × Nat × AObj)} {next : Nat} (h : HRel w0 N0 I hp next w) (hb : Below N0 w w') (hc : ∀ b i, w'.cell? ⟨b, i, none⟩ = w.cell? ⟨b, i, none⟩)
  (hold : ∀ id st b base n, I.loc id st = some (.at b base n) -> w'.heap[b]? = w.heap[b]?) : HRel w0 N0 I hp next w' /\ Evo I w I w' := by
 have hE : Evo I w I w' := ⟨y08 _, fun _ _ _ _ hx => hx, fun b i x hro hcc => ⟨hro, by rw [hc]; exact hcc⟩, rfl⟩
 refine ⟨⟨h.below.trans hb, h.base, fun i st o hi => ?_, h.locs, h.inj, h.fresh, h.free, h.okN, h.glob.mono hE.ro⟩, hE⟩;obtain ⟨k1, l, k2, k3⟩ := h.heap i st o hi;exact ⟨k1, l, k2, k3.evo hE fun b base n e => hold i st b base n (by rw [k2, e])⟩
theorem ustr_ts {ts ts' : Array TypeId} {ty : TypeId} {p : Option Addr} {l : Value} (e : ts[0]? = ts'[0]?) : Builtin.unsafeString_ ts ty #[.pointer p, l] = Builtin.unsafeString_ ts' ty #[.pointer p, l] := by
 delta Builtin.unsafeString_
 rw [e]
theorem s_ustr (h : Rel w0 N0 I S a w) {ts : Array TypeId} {t ty e : TypeId} {x y : Operand} {ax ay : Arg} (ht : ts[0]? = some t) (hu : P.underlying t = some (.pointer e)) (hs : sizeOf? P e = some 1) (hx : za1 x = some ax) (hy : za1 y = some ay)
  (hr : iop S (.ustr e ax ay) = some (v, S')) : ∃ u w' I', (Builtin.unsafeString_ ts ty #[a.eval x, a.eval y]).run P w = .ok u w' /\ VRel w' I'.ro (some I') v u /\ Rel w0 N0 I' S' a w' /\ Evo I w I' w' := by
 simp only [iop] at hr;split at hr
 case h_2 => cases hr
 rename_i id st n hxv hyv;split at hr
 case h_2 => cases hr
 rename_i st' T full cs hl;split at hr
 case isFalse => cases hr
 rename_i hcond;obtain ⟨rfl, rfl, hn0, hnl, hnb⟩ := hcond;split at hr
 case h_2 => cases hr
 rename_i bs hbs;simp only [y00, y0b] at hr;obtain ⟨rfl, rfl⟩ := hr;obtain ⟨m, rfl⟩ : ∃ m : Nat, n = (m : Int) := ⟨n.toNat, by omega⟩
 rw [y1e] at hbs;obtain ⟨g1, g2⟩ := zjk hbs;have hbl : bs.length = m := by rw [g1]; simp; omega
 have h1 := h.arg hx hxv;have h2 := h.arg hy hyv;obtain ⟨b, base, nn, hloc, hu1⟩ := zry h hl h1;obtain ⟨rfl, hf, c, hb, hcs, hle, hcells⟩ := zjb h hl hloc;have hu2 : a.eval y = .int .i64 (bs.length : Int) := by
  generalize a.eval y = u at h2;cases h2; rw [hbl]
 have hsh : w.shape? b = some (T, nn) := by simp [World.shape?, hb, hcs]
 have hcell : ∀ j x, bs[j]? = some x -> w.cell? ((⟨b, 0, none⟩ : Addr).add j) = some (.int .u8 x.toNat) := by
  intro j x hj;have k1 := g2 j x hj;have hj' : j < bs.length := (y05.1 hj).1;rw [y13 (by omega)] at k1;have k2 := hcells j _ k1;have hlt : j < c.size := by rw [hcs]; have := (y05.1 k1).1; omega
  rw [zbm, y1b];simp only [World.cell?, hb];simp only [y02, hlt, y17, y1p] at k2;simp only [hlt, y17];generalize c[j] = uu at k2 ⊢;cases k2;rfl
 have hc1 : P.cellsOf T = 1 := by
  simp only [sizeOf?, y03] at hs;obtain ⟨i, hi, hs⟩ := hs;simp [Program.cellsOf, hi, hs]
 have hrun : (Builtin.unsafeString_ ts ty #[a.eval x, a.eval y]).run P w = .ok (.string ⟨bs.toArray⟩) (w.freeze ⟨b, 0, none⟩ bs.length) := by
  rw [hu1, hu2];have := Lib.run_unsafeString_row (P := P) w t t ty T hu hc1 b nn hsh bs (by intro e; subst e; simp at hbl; omega) (by omega) (by omega) hcell;rw [<- this];rw [ustr_ts (ts := ts) (ts' := #[t, t]) (by rw [ht]; rfl)]
 have hE1 := Evo.drop I w id;have hk := h.hrel.drop id;obtain ⟨hk2, hE2⟩ := hk.out (w' := w.freeze ⟨b, 0, none⟩ bs.length) (Lib.below_freeze (Below.refl _ _) (h.hrel.fresh _ _ _ _ _ hloc) _) (fun b' i => zpt _ _ _ _ _) (fun i s b' base' n' hb' => by
  obtain ⟨hne, hb'⟩ := LI.drop_some hb';refine zpu _ _ _ fun e => hne ?_;subst e;exact h.hrel.inj _ _ _ _ _ _ _ _ _ hb' hloc)
 have hE := hE1.trans hE2;refine ⟨_, _, I.drop id, hrun, ?_, ⟨h.clk, h.tmps.evo hE, hk2, ?_⟩, hE⟩
 ·have : VRel (w.freeze ⟨b, 0, none⟩ bs.length) (I.drop id).ro (some (I.drop id)) (.str (⟨bs.toArray⟩ : ByteArray).data.toList) (.string ⟨bs.toArray⟩) := .str;simpa using this
 ·refine ⟨h.marks.1, fun i id' s d h1 h2 => ?_, h.marks.2.2⟩;obtain ⟨h3, b', base', n', h4, h5⟩ := h.marks.2.1 i id' s d h1 h2;have hne : id ≠ id' := by intro e; subst e; rw [hl] at h3; cases h3
  exact ⟨by rw [zac, if_neg hne]; exact h3, b', base', n', by simp [LI.drop, show ¬ id' = id from fun e => hne e.symm, h4], h5⟩
theorem zjx {α β : Type} (f : α -> β) : ∀ l : List α, (l.map fun b => [f b]).flatten = l.map f
 | [] => rfl
 | a :: l => by rw [y1d, y1d, y1c, zjx f l]; rfl
theorem zji (h : Rel w0 N0 I S a w) {xv : AV} {u : Value} {es : List (List AV)} (hx : VRel w I.ro (some I) xv u) (he : S.bytesIn xv = some es) :
  ((∃ p2 c2, u = .slice p2 es.length c2) \/ ∃ s : ByteArray, u = .string s /\ s.size = es.length) /\ (∀ e ∈ es, e.length = 1) /\ ∃ new, (Builtin.firstCells 1 es.length u).run P w = .ok new w /\ CRel w I.ro (some I) es.flatten new := by
 have other : S.elems 1 xv = some es -> ((∃ p2 c2, u = .slice p2 es.length c2) \/ ∃ s : ByteArray, u = .string s /\ s.size = es.length) /\ (∀ e ∈ es, e.length = 1) /\ ∃ new, (Builtin.firstCells 1 es.length u).run P w = .ok new w /\ CRel w I.ro (some I) es.flatten new := by
  intro he;obtain ⟨p2, n, c2, rfl, rfl, _, hsz, hfc⟩ := zfu (P := P) h hx he;obtain ⟨new, hn, hc⟩ := hfc es.length (y08 _);rw [y1t] at hc;exact ⟨.inl ⟨_, _, rfl⟩, hsz, new, hn, hc⟩
 unfold AS.bytesIn at he;split at he
 ·rename_i s;simp only [y00] at he; subst he;cases hx with
  | @str _ t =>
   have hsz : t.size = (t.data.toList.map fun b => [AV.int .u8 (b.toNat : Int)]).length := by simp only [y06]; rfl
   refine ⟨.inr ⟨t, rfl, hsz⟩, fun e he => ?_, t.data.map fun b => .int .u8 b.toNat, ?_, ?_, fun i x hx => ?_⟩
   ·obtain ⟨b, _, rfl⟩ := y0p.1 he; rfl
   ·have e1 : t.extract 0 t.size = t := by apply ByteArray.ext; simp
    rw [<- hsz];simp only [Builtin.firstCells, e1, Sem.run_pure]
   ·rw [zjx (fun b : UInt8 => AV.int .u8 (b.toNat : Int))]; simp
   ·rw [zjx (fun b : UInt8 => AV.int .u8 (b.toNat : Int))] at hx;rw [y0n, y03] at hx;obtain ⟨b, hb, rfl⟩ := hx;have : (t.data.map fun b => Value.int .u8 b.toNat).getD i undef = .int .u8 b.toNat := by
     rw [y1r] at hb;simp [y02, hb]
    rw [this]; exact .int
 ·exact other he
theorem zkm (h : Rel w0 N0 I S a w) {id st : Nat} {o o' : AObj} (hl : look id S.heap = some (st, o)) (hnd : o ≠ .deferred) {l : Loc} {w' : World} (hbelow : Below N0 w w')
  (hold : ∀ b, b < w.heap.size -> (∀ st base n, I.loc id st ≠ some (.at b base n)) -> w'.heap[b]? = w.heap[b]?)
  (hlo : ∀ b base n, l = .at b base n -> w.heap.size <= b \/ ∃ st base' n', I.loc id st = some (.at b base' n'))
  (ho : Evo I w (I.bind id l) w' -> ORel w' (I.bind id l) l o') :
  Rel w0 N0 (I.bind id l) { S with heap := zap id (S.clk, o') S.heap, clk := S.clk + 1 } a w' /\ Evo I w (I.bind id l) w' := by
 have hid : id < S.next := by
  rcases y20 id S.next with h1 | h1
  ·exact h1
  ·rw [h.hrel.free id h1] at hl; cases hl
 obtain ⟨k1, k2⟩ := h.hrel.bind hbelow hold hlo ho (y08 S.next) hid;rw [h.clk] at k1;exact ⟨⟨by simp [LI.bind, h.clk], h.tmps.evo k2, k1, h.marks.bind fun s e => by rw [hl] at e; injection e with e; injection e with _ e; exact hnd e⟩, k2⟩
theorem zp4 (h : Rel w0 N0 I S a w) {ts : Array TypeId} {e : TypeId} {bytes : Nat} {z : List AV} (ht : AppT P ts e 1 bytes z) {ty : TypeId} {args : Array Value} {su xu : Value} (h0 : args[0]? = some su) (h1 : args[1]? = some xu)
  {sv xv : AV} {es : List (List AV)} (hs : VRel w I.ro (some I) sv su) (hx : VRel w I.ro (some I) xv xu) (he : S.bytesIn xv = some es) (hr : appendT S e bytes sv es = some (v, S')) :
  ∃ u w' I', (Builtin.append_ ts ty args).run P w = .ok u w' /\ VRel w' I'.ro (some I') v u /\ Rel w0 N0 I' S' a w' /\ Evo I w I' w' := by
 obtain ⟨hd, hdE⟩ := h.drew;obtain ⟨hxu, hsz, new, hnew, hnewC⟩ := zji (P := P) h hx he;obtain ⟨_, _, newd, hnewd, hnewdC⟩ := zji (P := P) hd (hx.evo hdE) he;have hfl : es.flatten.length = es.length := by rw [ze5 1 es hsz, Nat.mul_one]
 unfold appendT at hr;split at hr
 ·cases hr
 rename_i hz;split at hr
 case isFalse => cases hr
 rename_i hcond;obtain ⟨hcell, hby⟩ := hcond;split at hr
 ·-- onto nothing
  split at hr
  ·rename_i hlim;simp only [y00, y0b] at hr;obtain ⟨rfl, rfl⟩ := hr;generalize su = su' at hs h0;cases hs;rename_i p;have ho : (Builtin.firstCells 1 0 (.slice p 0 0)).run P w.drew = .ok #[] w.drew := by cases p <;> simp [Builtin.firstCells, loadCells, loadCellsFrom]
   obtain ⟨nc, rest, r1, r2, r3⟩ := zde (P := P) (w := w) ht (ty := ty) hxu h0 h1 (by omega : 0 < 0 + es.length) (by omega) hby ho hnewd;have hc : CRel w.drew I.ro (some I) [] (#[] : Array Value) := ⟨rfl, fun i x hx => by simp at hx⟩
   obtain ⟨k1, k2⟩ := zro hd (T := e) (full := false) (cs := es.flatten) (us := #[] ++ newd ++ rest) (fun i x hx => hc.append hnewdC rest i x (by simpa using hx)) (by simp [hnewdC.1]) (fun hh => by cases hh);refine ⟨_, _, _, r3, ?_, k1, hdE.trans k2⟩;rw [<- h.clk];have : (#[] ++ newd ++ rest).size = nc * 1 := by simp [hnewdC.1, hfl, r2]; omega
   rw [y1b];exact zin (by omega) (fun k hk => by cases hk) (fun _ => this.symm)
  ·cases hr
 ·rename_i id st sz' off len;split at hr
  case h_2 => cases hr
  rename_i st' T' cs hl;split at hr
  case isFalse => cases hr
  rename_i hc6;obtain ⟨rfl, rfl, rfl, hTe, hle, hlim⟩ := hc6;have hTe := hTe.symm;subst hTe;simp only [y00, y0b] at hr;obtain ⟨rfl, rfl⟩ := hr;rw [ziz];have hsd := hs.evo hdE;cases hs with
  | @ms _ _ _ _ _ _ _ p c hlc hp hcap hcl =>
   obtain ⟨J, hJ, c1, c2, c3⟩ := hcl;injection hJ with hJ; subst hJ;obtain ⟨_, l, hl', _⟩ := h.hrel.heap _ _ _ hl
   -- the old bytes, at the world with one draw more
   have hold : ∃ old, (Builtin.firstCells 1 len (.slice p len c)).run P w.drew = .ok old w.drew /\ CRel w.drew I.ro (some I) (cs.take len) old := by
    by_cases hl0 : len = 0
    ·subst hl0;exact ⟨#[], by cases p <;> simp [Builtin.firstCells, loadCells, loadCellsFrom], rfl, fun i x hx => by simp at hx⟩
    ·cases l with
     | void => have := c3 hl'; omega
     | «at» b base nn =>
      rcases c2 b base nn hl' with h00 | ⟨rfl, _⟩
      ·omega
      ·obtain ⟨rfl, _, cc, o1, o2, o3, o4⟩ := zjb hd hl hl';have key : ∀ j, j < len -> w.drew.cell? ((⟨b, 0 + 0, none⟩ : Addr).add j) = some (cc.getD j undef) := by
        intro j hj;rw [zbm];have : j < cc.size := by omega
        simp [World.cell?, o1, this, y02]
       refine ⟨_, by simp only [Builtin.firstCells, Nat.mul_one]; exact run_loadCells (P := P) w.drew ⟨b, 0 + 0, none⟩ len (fun j => cc.getD j undef) key, by simp; omega, fun i x hx => ?_⟩;have hi : i < len := by have := (y05.1 hx).1; simp at this; omega
       rw [y13 hi] at hx;have : ((List.range len).map fun j => cc.getD j undef).toArray.getD i undef = cc.getD i undef := by
        simp [y02, hi]
       rw [this]; exact o4 i x hx
   obtain ⟨old, hold1, hold2⟩ := hold;have htl : (cs.take len).length = len := by simp; omega
   by_cases hfit : len + es.length <= c
   ·-- in place
    cases l with
    | void => have := c3 hl'; omega
    | «at» b base nn =>
     rcases c2 b base nn hl' with h00 | ⟨hpe, hcn⟩
     ·omega
     have hcn := hcn rfl;obtain ⟨rfl, _, cc, o1, o2, o3, o4⟩ := zjb h hl hl';have hnl : new.toList.length = es.length := by simp [hnewC.1, hfl]
     have hroom : len + es.length <= nn := by omega
     have hone : ∀ u ∈ new.toList, u.oneCell' = true := by
      intro u hu;obtain ⟨i, hi, rfl⟩ := y1g.1 hu;have hi' : i < es.flatten.length := by rw [hfl, <- hnl]; exact hi
      have hv := hnewC.2 i es.flatten[i] (by simp);have : new.getD i undef = new.toList[i] := by
       have hi2 : i < new.size := by simpa using hi
       simp [y02, hi2]
      rw [this] at hv;exact zcd hv (y0h.1 hcell _ (y0x hi'))
     have rs := run_storeCells_at (P := P) b (0 + 0 + len * 1) e new.toList 0 cc w o1 (by rw [hnl]; omega) hone;simp only [y2e, Nat.mul_one, y1b] at rs;have g1 : (Builtin.append_ ts ty args).run P w = .ok (.slice p (len + es.length) c) (w.setRow b (setAt len cc.toList new.toList).toArray) := by
      subst hpe;refine zec (P := P) (w := w) ht (ty := ty) hxu h0 h1 hfit hnew ?_;simp only [zbm, Nat.mul_one, y1b];exact rs
     have hrb : (setAt len cc.toList new.toList).length = cc.toList.length := zbg _ _ _ (by rw [hnl]; simp; omega);obtain ⟨k1, k2⟩ := zkm h hl (by simp) (o' := .typed e false (cs.take len ++ es.flatten)) (l := .at b 0 nn) (w' := w.setRow b (setAt len cc.toList new.toList).toArray)
      (zek _ (h.hrel.fresh _ _ _ _ _ hl')) (fun b' _ hb' => setRow_other w b b' _ (fun ee => by subst ee; exact hb' _ _ _ hl'))
      (fun b' base' n' ee => by injection ee with q1 q2 q3; subst q1; exact .inr ⟨_, _, _, hl'⟩)
      (fun ev => ⟨rfl, fun hh => (by cases hh), _, setRow_heap w b cc _ e (0, 0) o1, by simp [hrb, o2], by simp [hfl]; omega, fun i x hx => by
       refine VRel.evo ?_ ev;have hg := zc1 len cc.toList new.toList (by rw [hnl]; simp; omega) (0 + i);have e5 : (setAt len cc.toList new.toList).toArray.getD (0 + i) undef = ((setAt len cc.toList new.toList)[0 + i]?).getD undef := by
        simp [y02]
       rw [e5, hg, hnl];by_cases g1 : i < len
       ·rw [y0z (by omega), y13 g1] at hx;rw [if_pos (by omega)];have := o4 _ x hx;simpa [y02] using this
       ·rw [y12 (by omega), htl] at hx;have hlt : i - len < es.length := by rw [<- hfl]; exact (y05.1 hx).1
        rw [if_neg (by omega), if_pos (by omega)];have := hnewC.2 _ x hx;rw [show 0 + i - len = i - len from by omega]
        simpa [y02] using this⟩)
     refine ⟨_, _, _, g1, ?_, k1, k2⟩;rw [<- h.clk];refine .ms (by omega) (fun _ => ⟨_, hpe⟩) (fun k hk => by cases hk) ⟨_, rfl, y07 _, fun b' base' n' hb => ?_, fun hb => ?_⟩
     ·rw [LI.bind_same] at hb; injection hb with hb; injection hb with q1 q2 q3; subst q1 q2 q3;exact .inr ⟨by rw [hpe], fun _ => by omega⟩
     ·rw [LI.bind_same] at hb; cases hb
   ·obtain ⟨nc, rest, r1, r2, r4⟩ := zde (P := P) (w := w) ht (ty := ty) hxu h0 h1 (by omega) (by omega) hby hold1 hnewd;have hN : N0 <= w.drew.heap.size := y0u h.hrel.base h.hrel.below.size;obtain ⟨k1, k2⟩ := zkm hd hl (by simp) (o' := .typed e false (cs.take len ++ es.flatten)) (l := .at w.drew.heap.size 0 (old ++ newd ++ rest).size) (w' := w.drew.alloc (.cells (old ++ newd ++ rest) e))
     ((Below.refl _ _).alloc hN _) (fun b' hb' _ => Below.heap_alloc _ _ b' hb')
     (fun b' base' n' ee => by injection ee with q1 q2 q3; subst q1; exact .inl (y08 _))
     (fun ev => ⟨rfl, fun hh => (by cases hh), _, World.alloc_heap_new _ _, rfl, by simp [hnewdC.1, hold2.1], fun i x hx => by
      rw [y1b];exact (hold2.append hnewdC rest i x hx).evo ev⟩)
    have hsize : (old ++ newd ++ rest).size = nc * 1 := by
     simp only [Array.size_append, hold2.1, hnewdC.1, hfl, r2, htl]; omega
    refine ⟨_, _, _, r4, ?_, k1, hdE.trans k2⟩;rw [<- h.clk];exact zin (by omega) (fun k hk => by cases hk) (fun _ => hsize.symm)
 ·cases hr
theorem ztc {f : FuncId} (hf : zi3 P f = true) (x : Value) : (callFunc f #[x]).run P w = .ok (.value x) w := by
 unfold zi3 at hf;split at hf
 ·rename_i fn hfn;simp only [y0g, beq_iff_eq] at hf;obtain ⟨hb, hn, ho⟩ := hf;have e1 : Extern.findNext fn = none := by
   show ((Extern.allNextRows.lookup fn.name).map (· fn.params fn.resultTypes) <|> (Extern.allNextRows.lookup fn.origin).map (· fn.params fn.resultTypes)) = none;rw [hn, ho, show Extern.allNextRows.lookup "internal/abi.NoEscape" = none from by kernel_rfl, show Extern.allNextRows.lookup "" = none from by kernel_rfl]
   rfl
  have e2 : Extern.find fn = some Extern.AbiNoEscape.same := by
   show ((((Extern.allGenericRows.lookup fn.name).map (· fn.targs fn.params fn.resultTypes) <|> (Extern.allTypedRows.lookup fn.name).map (· fn.params fn.resultTypes) <|> Extern.allRows.lookup fn.name)) <|> _) = _;rw [hn, show Extern.allGenericRows.lookup "internal/abi.NoEscape" = none from by kernel_rfl, show Extern.allTypedRows.lookup "internal/abi.NoEscape" = none from by kernel_rfl, show Extern.allRows.lookup "internal/abi.NoEscape" = some Extern.AbiNoEscape.same from by kernel_rfl]
   rfl
  have e3 : (fn.name == "runtime.NumGoroutine") = false := by rw [hn]; decide
  rw [run_callFunc_extern hfn e3 hb e1 e2];rfl
 ·cases hf
end
section
variable {P : Program} {w0 w : World} {N0 : Nat} {I : LI} {S S' : AS} {a : Act} {io : IOp} {v : AV}
theorem zbt (h : Rel w0 N0 I S a w) {s : Sem Value} (hr : ∃ u, s.run P w = .ok u w /\ VRel w I.ro (some I) v u /\ S' = S) : Fin w0 N0 I a w ((do pure (.value (<- s)) : Sem Next).run P w) v S' := by
 obtain ⟨u, h1, h2, rfl⟩ := hr;exact Fin.same h (zhl h1) h2
theorem zck {s : Sem Value} (hr : ∃ u w' I', s.run P w = .ok u w' /\ VRel w' I'.ro (some I') v u /\ Rel w0 N0 I' S' a w' /\ Evo I w I' w') : Fin w0 N0 I a w ((do pure (.value (<- s)) : Sem Next).run P w) v S' := by
 obtain ⟨u, w', I', h1, h2, h3, h4⟩ := hr;exact ⟨u, w', I', .inl (zhl h1), h2, h3, h4⟩
theorem zvr (h : Rel w0 N0 I S a w) (o : Oper) (hc : zbw P o.op = some io) (hr : iop S io = some (v, S')) : Fin w0 N0 I a w ((execOp a.eval o).run P w) v S' := by
 obtain ⟨dst, op, ty, pos, af, gd⟩ := o;simp only at hc;cases op with
 | move x =>
  simp only [zbw] at hc;split at hc
  ·simp only [y00] at hc; subst hc;simp only [iop, AS.arg, Option.map_some, y00, y0b] at hr;obtain ⟨rfl, rfl⟩ := hr;exact Fin.same h rfl .top
  simp only [y03] at hc;obtain ⟨ar, har, rfl⟩ := hc;simp only [iop, y03, y0b] at hr;obtain ⟨y, hy, rfl, rfl⟩ := hr;exact Fin.same h rfl (h.arg har hy)
 | assign x =>
  simp only [zbw] at hc;split at hc
  ·simp only [y00] at hc; subst hc;simp only [iop, AS.arg, Option.map_some, y00, y0b] at hr;obtain ⟨rfl, rfl⟩ := hr;exact Fin.same h rfl .top
  simp only [y03] at hc;obtain ⟨ar, har, rfl⟩ := hc;simp only [iop, y03, y0b] at hr;obtain ⟨y, hy, rfl, rfl⟩ := hr;exact Fin.same h rfl (h.arg har hy)
 | pick c x y =>
  simp only [zbw] at hc;split at hc
  ·rename_i cc cx cy h1 h2 h3;simp only [y00] at hc; subst hc;obtain ⟨u, e1, e2, rfl⟩ := s_pick (P := P) h h1 h2 h3 hr;exact Fin.same h e1 e2
  ·cases hc
 | alloc t =>
  simp only [zbw, y03] at hc;obtain ⟨z, hz, rfl⟩ := hc;exact zck (s_alloc h hz hr)
 | box t x =>
  simp only [zbw] at hc;split at hc <;> simp only [y03] at hc <;> obtain ⟨ar, har, rfl⟩ := hc
  ·exact zck (s_boxT h har hr)
  ·exact zck (s_box h har hr)
 | build t parts => exact zbt h (s_build h hc hr)
 | buildSlice t len parts =>
  simp only [zbw] at hc;split at hc
  ·rename_i e hu;split at hc
   ·rename_i s z hs hz;split at hc
    ·cases hc
    ·rename_i hcond;simp only [y03] at hc;obtain ⟨ps, hps, rfl⟩ := hc;exact zck (s_bslice h hu hs hz (fun e0 => hcond (.inl e0)) (by omega) (by omega) hps hr)
   ·cases hc
  ·cases hc
 | load t x =>
  simp only [zbw] at hc;split at hc
  ·rename_i g ar hg har;simp only [y00] at hc; subst hc;exact zbt h (s_load h hg har hr)
  ·cases hc
 | store t x y =>
  simp only [zbw] at hc;split at hc
  ·rename_i s ax ay hs hx hy;simp only [y00] at hc; subst hc;obtain ⟨w', I', e1, rfl, e3, e4⟩ := s_store h hs hx hy hr;refine ⟨undef, w', I', .inr ⟨?_, rfl⟩, .tup rfl (by simp), e3, e4⟩;simp [execOp, e1]
  ·cases hc
 | nilCheck x =>
  simp only [zbw, y03] at hc;obtain ⟨ar, har, rfl⟩ := hc;simp only [iop] at hr;split at hr <;> simp only [y00, y0b, reduceCtorEq] at hr
  ·obtain ⟨rfl, rfl⟩ := hr;have hv := h.arg har (by assumption);have hv' := hv;generalize he : a.eval x = u at hv;cases hv;exact Fin.same h (u := a.eval x) (by simp [execOp, he]) hv'
  ·obtain ⟨rfl, rfl⟩ := hr;have hv := h.arg har (by assumption);have hv' := hv;generalize he : a.eval x = u at hv;obtain ⟨p, rfl⟩ : ∃ p, u = .pointer (some p) := by cases hv with | mptr hk _ => exact hk
   exact Fin.same h (u := a.eval x) (by simp [execOp, he]) hv'
  ·obtain ⟨rfl, rfl⟩ := hr;have hv := h.arg har (by assumption);have hv' := hv;generalize he : a.eval x = u at hv;cases hv;exact Fin.same h (u := a.eval x) (by simp [execOp, he]) hv'
 | binOp op t x y t2 =>
  simp only [zbw] at hc;split at hc
  ·rename_i ax ay hu hx hy;split at hc <;> simp only [y00, reduceCtorEq] at hc <;> subst hc <;> simp only [iop] at hr <;> split at hr <;> simp only [y00, y0b, reduceCtorEq] at hr <;> obtain ⟨rfl, rfl⟩ := hr
   all_goals
    rename_i p q hp hq;have h1 := h.arg hx hp;have h2 := h.arg hy hq;generalize he1 : a.eval x = u1 at h1;generalize he2 : a.eval y = u2 at h2;cases h1; cases h2
   ·refine Fin.same h (u := .bool (p == q)) ?_ .bool;simp [execOp, he1, he2, zam (P := P) (w := w), Go.binOp, Op.equal, Op.maxDepth, run_equalIn_bool' (P := P) w 9999 t p q hu]
   ·refine Fin.same h (u := .bool (!(p == q))) ?_ .bool;simp [execOp, he1, he2, zam (P := P) (w := w), Go.binOp, Op.equal, Op.maxDepth, run_equalIn_bool' (P := P) w 9999 t p q hu]
  ·rename_i k ax ay hu hx hy;simp only [y00] at hc; subst hc;simp only [iop] at hr;split at hr
   ·rename_i p q hp hq;simp only [y03, y0b] at hr;obtain ⟨r, hr, rfl, rfl⟩ := hr;obtain ⟨u, e1, e2, e3, e4⟩ := s_bin (P := P) (t := t) (h.arg hx hp) (h.arg hy hq) hr;exact Fin.same h (by simp [execOp, zam (P := P) (w := w) op t x y _ _ e3 e4, e1]) e2
   ·cases hr
  ·rename_i ax ay hu hx hy;simp only [y00] at hc; subst hc;simp only [iop] at hr;split at hr
   ·rename_i p q hp hq;simp only [y03, y0b] at hr;obtain ⟨r, hr, rfl, rfl⟩ := hr;obtain ⟨u, e1, e2, e3, e4⟩ := s_bin (P := P) (t := t) (h.arg hx hp) (h.arg hy hq) hr;exact Fin.same h (by simp [execOp, zam (P := P) (w := w) op t x y _ _ e3 e4, e1]) e2
   ·cases hr
  ·rename_i fs ax ay hu hx hy;split at hc
   ·cases hc
   ·rename_i hno;simp only [y0v, not_or, Bool.not_eq_true] at hno;split at hc <;> simp only [y00, reduceCtorEq] at hc <;> subst hc <;> simp only [iop] at hr
    all_goals
     rename_i l hl;split at hr
     ·rename_i xs ys hp hq;split at hr
      ·rename_i r hrr;simp only [y00, y0b] at hr;obtain ⟨rfl, rfl⟩ := hr;have h1 := h.arg hx hp;have h2 := h.arg hy hq;generalize he1 : a.eval x = u1 at h1;generalize he2 : a.eval y = u2 at h2;cases h1 with
       | agg a1 a2 =>
        cases h2 with
        | agg b1 b2 =>
         obtain ⟨k1, k2⟩ := s_eqs (P := P) hu hno.1 hl ⟨a1, a2⟩ ⟨b1, b2⟩ hrr;first
         | exact Fin.same h (u := .bool r) (by simp [execOp, he1, he2, run_eqGuard_agg (P := P) w _ t x y _ _ hno.2, k1]) .bool
         | exact Fin.same h (u := .bool !r) (by simp [execOp, he1, he2, run_eqGuard_agg (P := P) w _ t x y _ _ hno.2, k2]) .bool
      ·cases hr
     ·cases hr
  ·rename_i n e ax ay hu hx hy;split at hc
   ·cases hc
   ·rename_i hno;simp only [Bool.not_eq_true] at hno;split at hc <;> simp only [y00, reduceCtorEq] at hc <;> subst hc <;> simp only [iop] at hr
    all_goals
     rename_i l hl;split at hr
     ·rename_i xs ys hp hq;split at hr
      ·rename_i r hrr;simp only [y00, y0b] at hr;obtain ⟨rfl, rfl⟩ := hr;have h1 := h.arg hx hp;have h2 := h.arg hy hq;generalize he1 : a.eval x = u1 at h1;generalize he2 : a.eval y = u2 at h2;cases h1 with
       | agg a1 a2 =>
        cases h2 with
        | agg b1 b2 =>
         obtain ⟨k1, k2⟩ := s_eqarr (P := P) hu hl ⟨a1, a2⟩ ⟨b1, b2⟩ hrr;first
         | exact Fin.same h (u := .bool r) (by simp [execOp, he1, he2, run_eqGuard_agg (P := P) w _ t x y _ _ hno, k1]) .bool
         | exact Fin.same h (u := .bool !r) (by simp [execOp, he1, he2, run_eqGuard_agg (P := P) w _ t x y _ _ hno, k2]) .bool
      ·cases hr
     ·cases hr
  ·rename_i e ax ay hu hx hy;split at hc
   case h_2 => cases hc
   rename_i sz hsz;simp only [sizeOf?, y03] at hsz;obtain ⟨j, hj, rfl⟩ := hsz;split at hc <;> simp only [y00, reduceCtorEq] at hc <;> subst hc
   all_goals
    obtain ⟨r, rfl, rfl, e1⟩ := s_peq h hu hj hx hy hr;exact Fin.same h e1 .bool
  ·rename_i e ax ay hu hx hy;split at hc <;> simp only [y00, reduceCtorEq] at hc <;> subst hc <;> simp only [iop] at hr
   ·have key : ∃ q n c, a.eval x = .slice (some q) n c := by
     split at hr
     ·rename_i e1 es hp;have h1 := h.arg hx hp;generalize a.eval x = u at h1;cases h1 with
      | vs us hl hcap ha => exact ⟨_, _, _, by rw [ha (by simp)]⟩
     ·rename_i i1 i2 i3 i4 n1 i5 hp;have h1 := h.arg hx hp;generalize a.eval x = u at h1;cases h1 with
      | ms hl hp' =>
       obtain ⟨q, rfl⟩ := hp' (by omega);exact ⟨_, _, _, rfl⟩
     ·cases hr
    have hr' : some (AV.bool false, S) = some (v, S') := by
     split at hr
     ·exact hr
     ·exact hr
     ·cases hr
    simp only [y00, y0b] at hr';obtain ⟨rfl, rfl⟩ := hr';obtain ⟨q, n, c, hev⟩ := key;obtain ⟨k1, k2⟩ := zwu (P := P) (w := w) t e q n c hu;exact Fin.same h (u := .bool false) (by simp [execOp, hev, show a.eval (.const (.slice none 0 0)) = .slice none 0 0 from rfl, zam (P := P), k1]) .bool
   ·have key : ∃ q n c, a.eval x = .slice (some q) n c := by
     split at hr
     ·rename_i e1 es hp;have h1 := h.arg hx hp;generalize a.eval x = u at h1;cases h1 with
      | vs us hl hcap ha => exact ⟨_, _, _, by rw [ha (by simp)]⟩
     ·rename_i i1 i2 i3 i4 n1 i5 hp;have h1 := h.arg hx hp;generalize a.eval x = u at h1;cases h1 with
      | ms hl hp' =>
       obtain ⟨q, rfl⟩ := hp' (by omega);exact ⟨_, _, _, rfl⟩
     ·cases hr
    have hr' : some (AV.bool true, S) = some (v, S') := by
     split at hr
     ·exact hr
     ·exact hr
     ·cases hr
    simp only [y00, y0b] at hr';obtain ⟨rfl, rfl⟩ := hr';obtain ⟨q, n, c, hev⟩ := key;obtain ⟨k1, k2⟩ := zwu (P := P) (w := w) t e q n c hu;exact Fin.same h (u := .bool true) (by simp [execOp, hev, show a.eval (.const (.slice none 0 0)) = .slice none 0 0 from rfl, zam (P := P), k2]) .bool
  ·cases hc
 | unOp op t x =>
  simp only [zbw, y03] at hc;obtain ⟨ar, har, rfl⟩ := hc;simp only [iop] at hr;split at hr
  ·rename_i xv hxv;simp only [y03, y0b] at hr;obtain ⟨r, hr, rfl, rfl⟩ := hr;obtain ⟨u, e1, e2⟩ := s_un (P := P) (h.arg har hxv) hr;exact Fin.same h (zhl e1) e2
  ·cases hr
 | convert src dst x =>
  simp only [zbw] at hc;split at hc
  ·rename_i k1 k2 h1 h2;simp only [y03] at hc;obtain ⟨ar, har, rfl⟩ := hc;simp only [iop] at hr;split at hr <;> try cases hr
   rename_i xv hxv;simp only [y03, y0b] at hr;obtain ⟨r, hr, rfl, rfl⟩ := hr;have hv := h.arg har hxv;generalize he : a.eval x = u at hv;unfold zsu at hr;split at hr <;> simp only [y00, reduceCtorEq] at hr <;> subst hr
   ·cases hv;refine Fin.same h (zhl (u := .int k2 _) ?_) .int;simp [convert, za2 h1, za2 h2, he, Conv.intToInt]
   ·cases hv;rename_i n hn;refine Fin.same h (zhl (u := .int k2 (k2.wrap n)) ?_) (.ints (List.mem_map_of_mem hn));simp [convert, za2 h1, za2 h2, he, Conv.intToInt]
  ·rename_i k1 h1 h2;simp only [y03] at hc;obtain ⟨ar, har, rfl⟩ := hc;simp only [iop] at hr;split at hr <;> try cases hr
   rename_i kk n hxv;split at hr <;> try cases hr
   rename_i hn;have hv := h.arg har hxv;generalize he : a.eval x = u at hv;cases hv;refine Fin.same h (zhl (u := .string (Utf8.encode n)) ?_) ?_
   ·simp [convert, za2 h1, za2 h2, he, Conv.intToString]
   ·rw [zoa hn.1 hn.2];exact VRel.str (t := ⟨#[UInt8.ofNat n.toNat]⟩)
  ·split at hc
   ·rename_i l ax hok hx;simp only [y00] at hc; subst hc;exact zbt h (s_uptr h hok hx hr)
   ·cases hc
  ·split at hc
   ·rename_i l ax hok hx;simp only [y00] at hc; subst hc;exact zbt h (s_uptr h hok hx hr)
   ·cases hc
  ·cases hc
 | makeFunc fn first cap =>
  cases fn <;> simp only [zbw, reduceCtorEq] at hc
  rename_i f;split at hc
  ·rename_i af ac hf hcc;simp only [y00] at hc; subst hc;simp only [iop] at hr;split at hr
   ·rename_i fv cv hfv hcv;simp only [y00, y0b] at hr;obtain ⟨rfl, rfl⟩ := hr;obtain ⟨a1, a2⟩ := h.args hf hfv;obtain ⟨b1, b2⟩ := h.args hcc hcv;exact Fin.same h (zhl (u := .func (.func f) (first.map a.eval) (cap.map a.eval)) rfl) (.fn a1 b1 a2 b2)
   ·cases hr
  ·cases hc
 | makeSlice t l c =>
  simp only [zbw] at hc;split at hc
  ·rename_i e hu;split at hc
   ·rename_i s z b al ac hs hz hb hl hcc;split at hc
    ·cases hc
    ·rename_i hcond;simp only [y00] at hc; subst hc;simp only [iop] at hr;split at hr
     ·rename_i k1 l' k2 c' hlv hcv;split at hr
      ·rename_i hb4;obtain ⟨b0, b1, b2, b3⟩ := hb4;simp only [y00, y0b] at hr;obtain ⟨rfl, rfl⟩ := hr;have h1 := h.arg hl hlv;have h2 := h.arg hcc hcv;generalize he1 : a.eval l = u1 at h1;generalize he2 : a.eval c = u2 at h2;cases h1; cases h2;obtain ⟨inf, u, hi, hzz, hcr⟩ := zed hz;have hby : inf.bytes = b := by unfold bytesOf? at hb; rw [hi] at hb; simpa using hb
       have rc := zgd (hcr w I.ro (some I)) (by omega) c'.toNat;have hzl : z.length = s := by omega
       rw [hzl] at rc;obtain ⟨k1', k2'⟩ := zgq h (elem := e) rc.2 (by rw [rc.1]; exact y08 _);have wl : IntKind.i64.wrap l' = l' := by simp [IntKind.wrap, IntKind.bits, IntKind.signed]; omega
       have wc : IntKind.i64.wrap c' = c' := by simp [IntKind.wrap, IntKind.bits, IntKind.signed]; omega
       have hmul : (b : Int) * c' <= 16777216 * 1048576 := Int.mul_le_mul (by omega) b2 (by omega) (by omega);have n1 : ¬ (((decide (c' < 0) || decide ((b : Int) * c' > 2 ^ 48)) || decide (l' < 0) || decide (l' > c')) = true) := by
        simp; omega
       refine zck ⟨.slice (some ⟨w.heap.size, 0, none⟩) l'.toNat c'.toNat, _, _, ?_, ?_, k1', k2'⟩
       ·have hn0 : (c'.toNat * s = 0) -> (Array.range (c'.toNat * s)) = #[] := fun e => by rw [e]; rfl
        simp only [he1, he2];by_cases hz0 : c'.toNat * s = 0
        ·simp only [Instr.makeSlice, Sem.run_bind, za2 hu, Result.andThen_ok, asInt, asIntOf, Sem.run_pure, typeInfo, run_program, hi, hby, wl, wc, n1, y0t, if_false, run_askRoom, zc0 hs, hz0, if_true, newRow, run_newObj];rw [hz0] at hn0;simp [hn0 rfl]
        ·simp only [Instr.makeSlice, Sem.run_bind, za2 hu, Result.andThen_ok, asInt, asIntOf, Sem.run_pure, typeInfo, run_program, hi, hby, wl, wc, n1, y0t, if_false, run_askRoom, zc0 hs, hz0, zeroValue, hzz, newRow, run_newObj];rfl
       ·rw [<- h.clk];exact zin (by omega) (fun k hk => by injection hk) (fun e => by cases e)
      ·cases hr
     ·cases hr
   ·cases hc
  ·cases hc
 | slice t x lo hi mx =>
  simp only [zbw] at hc;split at hc
  ·rename_i ax al ah hx hl hh;split at hc
   ·rename_i e hu;split at hc
    ·cases hc
    ·rename_i hmx;split at hc
     ·rename_i s am hs hm;simp only [y00] at hc; subst hc;exact zbt h (s_slsl h hu hs hx hl hh hm (fun e => by cases hi with | none => exact absurd ⟨e, rfl⟩ hmx | some _ => rfl) hr)
     ·cases hc
   ·rename_i n e hu;split at hc
    ·cases hc
    ·rename_i hmx;simp only [y03] at hc;obtain ⟨s, hs, rfl⟩ := hc;obtain rfl : mx = none := by cases mx <;> simp at hmx ⊢
     exact zbt h (s_slarr h hu hs hx hl hh hr)
   ·rename_i hu;split at hc
    ·cases hc
    ·rename_i hmx;simp only [y00] at hc; subst hc;obtain rfl : mx = none := by cases mx <;> simp at hmx ⊢
     exact zbt h (s_slstr h hu hx hl hh hr)
   ·cases hc
  ·cases hc
 | fieldAddr t x i =>
  simp only [zbw] at hc;split at hc
  ·rename_i fs hu;split at hc
   ·rename_i f hf;split at hc
    ·rename_i s ax hs hx;split at hc
     ·cases hc
     ·rename_i h0;simp only [y00] at hc; subst hc;exact zbt h (s_faddr h hu hf hs h0 hx hr)
    ·cases hc
   ·cases hc
  ·cases hc
 | field t x i =>
  simp only [zbw] at hc;split at hc
  ·rename_i fs hu;split at hc
   ·rename_i f hf;split at hc
    ·rename_i g ax hg hx;simp only [y00] at hc; subst hc;exact zbt h (s_field h hu hf hg hx hr)
    ·cases hc
   ·cases hc
  ·cases hc
 | indexAddr t x i =>
  simp only [zbw] at hc;split at hc
  ·rename_i e hu;split at hc
   ·rename_i s ax ai hs hx hi;simp only [y00] at hc; subst hc;exact zbt h (s_idxs h hu hs hx hi hr)
   ·cases hc
  ·rename_i n e hu;split at hc
   ·rename_i s ax ai hs hx hi;simp only [y00] at hc; subst hc;exact zbt h (s_idxarr h hu hs hx hi hr)
   ·cases hc
  ·cases hc
 | index t x i =>
  simp only [zbw] at hc;split at hc
  ·rename_i n e hu;split at hc
   ·rename_i s g ax ai hs hg hx hi;simp only [y00] at hc; subst hc;exact zbt h (s_idxagg h hu hs hg hx hi hr)
   ·cases hc
  ·rename_i hu;split at hc
   ·rename_i ax ai hx hi;simp only [y00] at hc; subst hc;exact zbt h (s_idxstr h hu hx hi hr)
   ·cases hc
  ·cases hc
 | makeMap t r =>
  cases r with
  | some r => simp [zbw] at hc
  | none =>
   simp only [zbw, y00] at hc; subst hc;simp only [iop, y00, y0b] at hr;obtain ⟨rfl, rfl⟩ := hr;exact zck (s_mkmap h t)
 | mapUpdate t m k x =>
  simp only [zbw] at hc;split at hc <;> try cases hc
  rename_i kt et ht;split at hc <;> try cases hc
  rename_i kd am ak ax hk ham hak hax;simp only [iop] at hr;split at hr <;> try cases hr
  rename_i mv kv xv hmv hkv hxv;simp only [y03, y0b] at hr;obtain ⟨S1, hr, rfl, rfl⟩ := hr;obtain ⟨w', I', e1, e3, e4⟩ := s_mapset (P := P) h ht hk (h.arg ham hmv) (h.arg hak hkv) (h.arg hax hxv) hr;refine ⟨undef, w', I', .inr ⟨?_, rfl⟩, .tup rfl (by simp), e3, e4⟩;simp [execOp, e1]
 | lookup t m k ok =>
  simp only [zbw] at hc;split at hc <;> try cases hc
  rename_i kt et ht;split at hc <;> try cases hc
  rename_i kd z am ak hk hz ham hak;simp only [iop] at hr;split at hr <;> try cases hr
  rename_i mv kv hmv hkv;simp only [y03, y0b] at hr;obtain ⟨r, hr, rfl, rfl⟩ := hr;unfold AS.mapget at hr;split at hr <;> try cases hr
  rename_i id st;split at hr <;> try cases hr
  rename_i st' es hl;split at hr <;> try cases hr
  rename_i hst; subst hst;split at hr
  ·exact absurd hz zxo
  simp only [y03] at hr;obtain ⟨r0, hr, rfl⟩ := hr;obtain ⟨u, e1, e2⟩ := s_mapget (P := P) (ok := ok) h ht hk hz hl (h.arg ham hmv) (h.arg hak hkv) hr;exact zbt h ⟨u, e1, e2, rfl⟩
 | extract x i =>
  simp only [zbw, y03] at hc;obtain ⟨ar, har, rfl⟩ := hc;simp only [iop] at hr;split at hr
  ·rename_i vs hvs;simp only [y03, y0b] at hr;obtain ⟨c, hcc, rfl, rfl⟩ := hr;have hv := h.arg har hvs;generalize he : a.eval x = u at hv;cases hv with
   | @tup _ _ us h1 h2 =>
    have e1 : us[i]? = some (us.getD i undef) := by
     have : i < us.size := by rw [h1]; exact (y05.1 hcc).1
     simp [y02, this]
    exact Fin.same h (zhl (u := us.getD i undef) (by rw [he]; simp only [Instr.extract]; rw [e1]; rfl)) (h2 _ _ hcc)
  ·cases hr
 | call c =>
  obtain ⟨callee, args, argTypes⟩ := c;cases callee with
  | value f =>
   simp only [zbw] at hc;split at hc
   ·rename_i fa l hfa hl;split at hc
    ·rename_i g x;split at hc
     ·rename_i hne;simp only [y00] at hc; subst hc;obtain ⟨xo, rfl⟩ : ∃ xo, args = #[xo] := by
       have := (zgb hl).1;rcases args with ⟨_ | ⟨xo, _ | ⟨_, _⟩⟩⟩
       ·simp at this
       ·exact ⟨xo, rfl⟩
       ·simp at this
      have hxo : za1 xo = some x := by
       obtain ⟨y, hy, hy2⟩ := (zgb hl).2 0 x rfl;simp only [y1h, y00] at hy; subst hy; exact hy2
      obtain ⟨w1, hf⟩ : ∃ fs : Unit, a.eval f = .func (.func g) #[] #[] := by
       refine ⟨(), ?_⟩;cases f with
       | tmp t => simp [za1] at hfa
       | const u =>
        simp only [za1, y03, Arg.c.injEq] at hfa;obtain ⟨v', hv', rfl⟩ := hfa;unfold zc5 at hv';split at hv' <;> first
         | cases hv'
         | (simp only [y03] at hv'; obtain ⟨_, _, hv'⟩ := hv'; cases hv')
       | global q =>
        simp only [za1, y03] at hfa;obtain ⟨_, _, hfa⟩ := hfa; cases hfa
       | func q =>
        simp only [za1, y00, Arg.c.injEq, AV.fn.injEq] at hfa;obtain ⟨rfl, _⟩ := hfa;rfl
      simp only [iop, y03, y0b] at hr;obtain ⟨y, hy, rfl, rfl⟩ := hr;refine Fin.same h (u := a.eval xo) ?_ (h.arg hxo hy);have e2 := ztc (w := w) hne (a.eval xo);simp only [execOp, resolve, hf, List.map_toArray, y1d, List.map_nil];simp [Deferred.ofValue, invoke, e2]
     ·simp only [y00] at hc; subst hc; simp [iop] at hr
    ·simp only [y00] at hc; subst hc; simp [iop] at hr
   ·cases hc
  | invoke r m => simp [zbw] at hc
  | builtin b =>
   have bi : ∀ {s : Sem Value}, (∀ cs, builtin b argTypes ty cs (args.map a.eval) = (do pure (.value (<- s)))) -> Fin w0 N0 I a w ((do pure (.value (<- s)) : Sem Next).run P w) v S' ->
     Fin w0 N0 I a w ((execOp a.eval ⟨dst, .call ⟨.builtin b, args, argTypes⟩, ty, pos, af, gd⟩).run P w) v S' := by
    intro s e hf;have : (execOp a.eval ⟨dst, .call ⟨.builtin b, args, argTypes⟩, ty, pos, af, gd⟩).run P w = (do pure (.value (<- s)) : Sem Next).run P w := by
     simp only [execOp, resolve, Sem.run_bind, Sem.run_pure, Result.andThen_ok, invoke, e]
    rw [this]; exact hf
   have getA : ∀ (i : Nat) (x : Operand), args[i]? = some x -> (args.map a.eval)[i]? = some (a.eval x) := by
    intro i x hx; simp [hx]
   cases b <;> simp only [zbw, reduceCtorEq] at hc
   case len =>
    refine bi (s := Builtin.len_ argTypes ty (args.map a.eval)) (fun cs => rfl) ?_;split at hc
    ·rename_i t x ht hx;have hg := getA 0 x hx;split at hc
     ·rename_i hu;simp only [y03] at hc;obtain ⟨ar, har, rfl⟩ := hc;simp only [iop] at hr;split at hr
      ·rename_i xv hxv;simp only [y03, y0b] at hr;obtain ⟨r, hr, rfl, rfl⟩ := hr;have hv := h.arg har hxv;generalize a.eval x = u at hv hg;unfold lenA at hr;split at hr
       ·simp only [if_true, y00] at hr; subst hr;cases hv;rename_i no lo hi t0 h0 h1 h2;refine Fin.same h (zhl (u := .int .i64 t0.data.toList.length) ?_) (.rng (by omega) (by omega));simp only [Builtin.len_, ht, hg, Sem.run_bind, za2 hu, Result.andThen_ok];rfl
       ·simp only [y03] at hr;obtain ⟨n, hn, rfl⟩ := hr;refine Fin.same h (zhl (u := .int .i64 n) ?_) .int;unfold lenOf at hn;cases hv <;> simp only [reduceCtorEq, y00] at hn
        subst hn;simp only [Builtin.len_, ht, hg, Sem.run_bind, za2 hu, Result.andThen_ok];rfl
      ·cases hr
     ·rename_i e hu;simp only [y03] at hc;obtain ⟨ar, har, rfl⟩ := hc;simp only [iop] at hr;split at hr
      ·rename_i xv hxv;simp only [y03, y0b] at hr;obtain ⟨r, hr, rfl, rfl⟩ := hr;obtain ⟨n, hn, rfl⟩ := zsz hr;have hv := h.arg har hxv;generalize a.eval x = u at hv hg;refine Fin.same h (zhl (u := .int .i64 n) ?_) .int;unfold lenOf at hn;cases hv <;> simp only [reduceCtorEq, y00] at hn
       case nils =>
        subst hn;simp only [Builtin.len_, ht, hg, Sem.run_bind, za2 hu, Result.andThen_ok];rfl
       case vs us hl hcap ha hsz hcc hvv =>
        subst hn;subst hl;simp only [Builtin.len_, ht, hg, Sem.run_bind, za2 hu, Result.andThen_ok];rfl
       case ms =>
        subst hn;simp only [Builtin.len_, ht, hg, Sem.run_bind, za2 hu, Result.andThen_ok];rfl
      ·cases hr
     ·rename_i n e hu;simp only [y00] at hc; subst hc;simp only [iop, y00, y0b] at hr;obtain ⟨rfl, rfl⟩ := hr;refine Fin.same h (zhl (u := .int .i64 n) ?_) .int;simp only [Builtin.len_, ht, hg, Sem.run_bind, za2 hu, Result.andThen_ok];rfl
     ·rename_i kt et hu;simp only [y03] at hc;obtain ⟨ar, har, rfl⟩ := hc;simp only [iop] at hr;split at hr <;> try cases hr
      rename_i mv kv hmv hkv;simp only [y03, y0b] at hr;obtain ⟨r, hr, rfl, rfl⟩ := hr;unfold AS.mapget at hr;split at hr <;> try cases hr
      rename_i id st;split at hr <;> try cases hr
      rename_i st' es hl;split at hr <;> try cases hr
      rename_i hst; subst hst;have hv := h.arg har hmv;generalize a.eval x = u at hv hg;obtain ⟨b, base, n, l, q, rfl, _, hb, hE⟩ := zw3 h hl hv;have hsz : l.size = es.length := by simpa using hE.1
      refine Fin.same h (zhl (u := .int .i64 es.length) ?_) .int;simp only [Builtin.len_, ht, hg, Sem.run_bind, za2 hu, Result.andThen_ok, MapKept.run_getObj_map hb];rw [<- hsz];rfl
     ·cases hc
    ·cases hc
   case append =>
    refine bi (s := Builtin.append_ argTypes ty (args.map a.eval)) (fun cs => rfl) ?_;split at hc
    ·rename_i t t2 x y ht ht2 hx hy;split at hc
     ·rename_i e e2 hu hu2;split at hc
      ·rename_i sz z b ax ay hs hz hb hax hay;split at hc
       ·cases hc
       ·rename_i hcond;split at hc
        ·rename_i hu8;simp only [y0g, beq_iff_eq] at hu8;obtain ⟨_, rfl⟩ := hu8;simp only [y00] at hc; subst hc;simp only [iop] at hr;split at hr
         case h_2 => cases hr
         rename_i sv xv hsv hxv;split at hr
         case h_2 => cases hr
         rename_i es hes;have ha : AppT P argTypes e 1 b z := ⟨⟨t, ht, hu⟩, ⟨t2, ht2, .inl ⟨e2, hu2⟩⟩, hs, hz, hb, by omega, by omega, by omega⟩
         exact zck (zp4 h ha (getA 0 x hx) (getA 1 y hy) (h.arg hax hsv) (h.arg hay hxv) hes hr)
        simp only [y00] at hc; subst hc;simp only [iop] at hr;split at hr
        ·rename_i sv xv hsv hxv;split at hr
         ·rename_i es hes;have ha : AppT P argTypes e sz b z := ⟨⟨t, ht, hu⟩, ⟨t2, ht2, .inl ⟨e2, hu2⟩⟩, hs, hz, hb, by omega, by omega, by omega⟩
          exact zck (s_append h ha (getA 0 x hx) (getA 1 y hy) (h.arg hax hsv) (h.arg hay hxv) hes hr)
         ·cases hr
        ·cases hr
      ·cases hc
     ·rename_i e hu hu2;split at hc
      case h_2 => cases hc
      rename_i sz z b ax ay hs hz hb hax hay;split at hc
      ·cases hc
      ·rename_i hcond;simp only [y00] at hc; subst hc;simp only [iop] at hr;split at hr
       case h_2 => cases hr
       rename_i sv xv hsv hxv;split at hr
       case h_2 => cases hr
       rename_i es hes;obtain rfl : sz = 1 := by omega
       have ha : AppT P argTypes e 1 b z := ⟨⟨t, ht, hu⟩, ⟨t2, ht2, .inr hu2⟩, hs, hz, hb, by omega, by omega, by omega⟩
       exact zck (zp4 h ha (getA 0 x hx) (getA 1 y hy) (h.arg hax hsv) (h.arg hay hxv) hes hr)
     ·rename_i e k2 hu hu2;split at hc
      ·rename_i sz z b ax ay hs hz hb hax hay;split at hc
       ·cases hc
       ·rename_i hcond;simp only [y00] at hc; subst hc;simp only [iop] at hr;split at hr
        ·rename_i sv k3 n hsv hxv;have hy' := h.arg hay hxv;generalize hg : a.eval y = yu at hy';cases hy';exact zck (zwt h ⟨t, ht, hu⟩ ⟨t2, k2, ht2, hu2⟩ hs hz hb (by omega) (by omega) (getA 0 x hx) (by rw [getA 1 y hy, hg]) (h.arg hax hsv) hr)
        ·cases hr
      ·cases hc
     ·cases hc
    ·cases hc
   case cap =>
    refine bi (s := Builtin.cap_ argTypes ty (args.map a.eval)) (fun cs => rfl) ?_;split at hc
    ·rename_i t x ht hx;have hg := getA 0 x hx;split at hc
     ·rename_i e hu;simp only [y03] at hc;obtain ⟨ar, har, rfl⟩ := hc;simp only [iop] at hr;split at hr
      ·rename_i xv hxv;split at hr
       case h_2 => cases hr
       rename_i n hn;simp only [y00, y0b] at hr;obtain ⟨rfl, rfl⟩ := hr;have hv := h.arg har hxv;generalize a.eval x = u at hv hg;refine Fin.same h (zhl (u := .int .i64 n) ?_) .int;unfold capOf at hn;split at hn <;> simp only [y00, reduceCtorEq] at hn
       ·subst hn;cases hv;simp only [Builtin.cap_, ht, hg, Sem.run_bind, za2 hu, Result.andThen_ok];rfl
       ·subst hn;cases hv;rename_i hcap _;rw [hcap _ rfl] at hg;simp only [Builtin.cap_, ht, hg, Sem.run_bind, za2 hu, Result.andThen_ok];rfl
      ·cases hr
     ·cases hc
    ·cases hc
   case copy =>
    refine bi (s := Builtin.copy_ argTypes ty (args.map a.eval)) (fun cs => rfl) ?_;split at hc
    ·rename_i t x y ht hx hy;split at hc
     ·rename_i e hu;split at hc
      ·rename_i sz ax ay hs hax hay;simp only [y00] at hc; subst hc;exact zck (s_copy h hu hs ht (getA 0 x hx) (getA 1 y hy) hax hay hr)
      ·cases hc
     ·cases hc
    ·cases hc
   case clear =>
    refine bi (s := Builtin.clear_ argTypes ty (args.map a.eval)) (fun cs => rfl) ?_;split at hc
    ·rename_i t x ht hx;split at hc
     ·rename_i e hu;split at hc
      ·rename_i sz z ax hs hz hax;simp only [y00] at hc; subst hc;exact zck (s_clear h hu hs hz ht (getA 0 x hx) hax hr)
      ·cases hc
     ·cases hc
    ·cases hc
   case unsafeSliceData =>
    refine bi (s := Builtin.unsafeSliceData_ argTypes ty (args.map a.eval)) (fun cs => rfl) ?_;split at hc
    ·rename_i x hx;simp only [y03] at hc;obtain ⟨ax, hax, rfl⟩ := hc;have e1 : args.map a.eval = #[a.eval x] := by
      rcases args with ⟨l⟩;simp only at hx; subst hx; simp
     rw [e1];exact zbt h (s_sdata h hax hr)
    ·cases hc
   case unsafeString =>
    refine bi (s := Builtin.unsafeString_ argTypes ty (args.map a.eval)) (fun cs => rfl) ?_;split at hc
    ·rename_i t x y ht hx;have e1 : args.map a.eval = #[a.eval x, a.eval y] := by
      rcases args with ⟨l⟩;simp only at hx; subst hx; simp
     rw [e1];split at hc
     ·rename_i e hu;split at hc
      ·rename_i sz ax ay hs hax hay;split at hc
       ·rename_i h1; subst h1;simp only [y00] at hc; subst hc;exact zck (s_ustr h ht hu hs hax hay hr)
       ·cases hc
      ·cases hc
     ·cases hc
    ·cases hc
   case min =>
    refine bi (s := Builtin.min_ argTypes ty (args.map a.eval)) (fun cs => rfl) ?_;simp only [y03] at hc;obtain ⟨as, has, rfl⟩ := hc;exact zbt h (zs7 (P := P) (mx := false) (ts := argTypes) (ty := ty) h has hr)
   case max =>
    refine bi (s := Builtin.max_ argTypes ty (args.map a.eval)) (fun cs => rfl) ?_;simp only [y03] at hc;obtain ⟨as, has, rfl⟩ := hc;exact zbt h (zs7 (P := P) (mx := true) (ts := argTypes) (ty := ty) h has hr)
 | _ => simp [zbw] at hc
end
end Go.Am
