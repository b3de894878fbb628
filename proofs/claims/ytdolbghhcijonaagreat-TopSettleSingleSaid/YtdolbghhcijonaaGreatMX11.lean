/-
  READING CONTROLS AND STATES AT THE ROW.
-/
import Derived.Test.YtdolbghhcijonaaGreatMX10
namespace Go.Proofs.YtdolbghhcijonaaGreat
open Go Go.Am Go.ChangeShapes Go.WideShapes Go.ChangeAt Go.RowKit Go.Deep
section
variable {H : Type} {enc : TypeId × Value -> H} {w : World} {base : Nat} {spare : Nat -> Bool} {held : Bool}
theorem rz3 : Am.Rd enc Tryz.prog w base spare held 3 (zlm .i64) := zwp Tryz.underlying3 (by kernel_rfl)
theorem rz4 : Am.Rd enc Tryz.prog w base spare held 4 zk5 := rd_bool Tryz.underlying4 (by kernel_rfl)
theorem rz9 : Am.Rd enc Tryz.prog w base spare held 9 cStr := rd_str Tryz.underlying9 (by kernel_rfl)
theorem rz24 : Am.Rd enc Tryz.prog w base spare held 24 (zbw (zlm .i64)) :=
 zjo Tryz.underlying24 (by kernel_rfl) (by rw [show Tryz.prog.cellsOf 3 = 1 from by kernel_rfl]; decide) rz3
theorem rz27 : Am.Rd enc Tryz.prog w base spare held 27 (zbw zk5) :=
 zjo Tryz.underlying27 (by kernel_rfl) (by rw [show Tryz.prog.cellsOf 4 = 1 from by kernel_rfl]; decide) rz4
theorem rz22 : Am.Rd enc Tryz.prog w base spare held 22 (zbw cStr) :=
 zjo Tryz.underlying22 (by kernel_rfl) (by rw [show Tryz.prog.cellsOf 9 = 1 from by kernel_rfl]; decide) rz9
theorem rz74 : Am.Rd enc Tryz.prog w base spare held 74 fun d => cX (exD d) :=
 rd_tree Tryz.underlying74 rfl Tryz.underlying3 (by kernel_rfl) Tryz.underlying72 (by kernel_rfl) (by rw [show Tryz.prog.cellsOf 74 = 3 from by kernel_rfl]; decide) (by kernel_rfl)
def rSg : List (DataW H -> List AV) := [cStr, zlm .i64, fun d => cX (exD d), fun d => cX (exD d), zlm .i64, zk5]
theorem rz77 : Am.Rd enc Tryz.prog w base spare held 77 (zbk rSg) := by
 refine zl2 Tryz.underlying77 rfl (by kernel_rfl) fun i f g e1 e2 => ?_;unfold rSg at e2
 match i, e1, e2 with
 | 0, e1, e2 => injection e1 with e1; injection e2 with e2; subst e1 e2; exact rz9
 | 1, e1, e2 => injection e1 with e1; injection e2 with e2; subst e1 e2; exact rz3
 | 2, e1, e2 => injection e1 with e1; injection e2 with e2; subst e1 e2; exact rz74
 | 3, e1, e2 => injection e1 with e1; injection e2 with e2; subst e1 e2; exact rz74
 | 4, e1, e2 => injection e1 with e1; injection e2 with e2; subst e1 e2; exact rz3
 | 5, e1, e2 => injection e1 with e1; injection e2 with e2; subst e1 e2; exact rz4
 | i + 6, e1, e2 => simp at e1
theorem rz23 : Am.Rd enc Tryz.prog w base spare held 23 (zbw (zbk rSg)) :=
 zjo Tryz.underlying23 (by kernel_rfl) (by rw [show Tryz.prog.cellsOf 77 = 10 from by kernel_rfl]; decide) rz77
def rCt : List (DataW H -> List AV) := [zlm .i64, zbw cStr, zbw (zbk rSg), zbw (zlm .i64), zbw (zlm .i64)]
def rSt : List (DataW H -> List AV) := [zbw (zlm .i64), zbw zk5, zbw zk5, zbw zk5, zbw (zlm .i64)]
theorem rz26 : Am.Rd enc Tryz.prog w base spare held 26 (zbk rCt) := by
 refine zl2 Tryz.underlying26 rfl (by kernel_rfl) fun i f g e1 e2 => ?_;unfold rCt at e2
 match i, e1, e2 with
 | 0, e1, e2 => injection e1 with e1; injection e2 with e2; subst e1 e2; exact rz3
 | 1, e1, e2 => injection e1 with e1; injection e2 with e2; subst e1 e2; exact rz22
 | 2, e1, e2 => injection e1 with e1; injection e2 with e2; subst e1 e2; exact rz23
 | 3, e1, e2 => injection e1 with e1; injection e2 with e2; subst e1 e2; exact rz24
 | 4, e1, e2 => injection e1 with e1; injection e2 with e2; subst e1 e2; exact rz24
 | i + 5, e1, e2 => simp at e1
theorem rz29 : Am.Rd enc Tryz.prog w base spare held 29 (zbk rSt) := by
 refine zl2 Tryz.underlying29 rfl (by kernel_rfl) fun i f g e1 e2 => ?_;unfold rSt at e2
 match i, e1, e2 with
 | 0, e1, e2 => injection e1 with e1; injection e2 with e2; subst e1 e2; exact rz24
 | 1, e1, e2 => injection e1 with e1; injection e2 with e2; subst e1 e2; exact rz27
 | 2, e1, e2 => injection e1 with e1; injection e2 with e2; subst e1 e2; exact rz27
 | 3, e1, e2 => injection e1 with e1; injection e2 with e2; subst e1 e2; exact rz27
 | 4, e1, e2 => injection e1 with e1; injection e2 with e2; subst e1 e2; exact rz24
 | i + 5, e1, e2 => simp at e1
def fD (k : Nat) (d : DataW H) : DataW H := ((zdg d).drop k).headD .nil
def sgD (d : DataW H) : Sig := ⟨strD (fD 0 d), zry (fD 1 d), exD (fD 2 d), exD (fD 3 d), zry (fD 4 d), zuv (fD 5 d)⟩
def ctD (d : DataW H) : Ctl := ⟨zry (fD 0 d), (zch (fD 1 d)).map strD, (zch (fD 2 d)).map sgD, (zch (fD 3 d)).map zry, (zch (fD 4 d)).map zry⟩
def stD (d : DataW H) : Sta := ⟨(zch (fD 0 d)).map zry, (zch (fD 1 d)).map zuv, (zch (fD 2 d)).map zuv, (zch (fD 3 d)).map zuv, (zch (fD 4 d)).map zry⟩
theorem c10_D (d : DataW H) : c10 (sgD d) = zbk rSg d := by
 have e : zbk rSg d = cStr (fD 0 d) ++ (zlm .i64 (fD 1 d) ++ (cX (exD (fD 2 d)) ++ (cX (exD (fD 3 d)) ++ (zlm .i64 (fD 4 d) ++ (zk5 (fD 5 d) ++ []))))) := by
  unfold zbk rSg fD;simp only [zei, <- List.drop_one, List.drop_drop, y26]
 rw [e, zif, zif];rfl
theorem cC_D (d : DataW H) : AV.agg (cC (ctD d)) = aggA (zbk rCt) d := by
 have e : zbk rCt d = zlm .i64 (fD 0 d) ++ (zbw cStr (fD 1 d) ++ (zbw (zbk rSg) (fD 2 d) ++ (zbw (zlm .i64) (fD 3 d) ++ (zbw (zlm .i64) (fD 4 d) ++ [])))) := by
  show zei rCt (zdg d) = _;unfold rCt fD;simp only [zei, <- List.drop_one, List.drop_drop, y26]
 unfold aggA;rw [e];unfold cC ctD vsN vsG vsI zbw;simp only [y1x];rw [show (c10 ∘ sgD : DataW H -> List AV) = zbk rSg from funext c10_D]
 rfl
theorem cS_D (d : DataW H) : AV.agg (cS (stD d)) = aggA (zbk rSt) d := by
 have e : zbk rSt d = zbw (zlm .i64) (fD 0 d) ++ (zbw zk5 (fD 1 d) ++ (zbw zk5 (fD 2 d) ++ (zbw zk5 (fD 3 d) ++ (zbw (zlm .i64) (fD 4 d) ++ [])))) := by
  unfold zbk rSt fD;simp only [zei, <- List.drop_one, List.drop_drop, y26]
 unfold aggA;rw [e];unfold cS stD vsI vsB zbw;simp only [y1x];rfl
theorem sl_el {t e : TypeId} (ht : Tryz.prog.underlying t = some (.slice e)) {n : Nat} {cs : List Value} {d : DataW H} {p : List MemPlace} (h : DataW.trod enc Tryz.prog w base spare held n t cs = some (d, p)) :
  (zch d).length < 9223372036854775808 /\ ∀ x ∈ zch d, ∃ (n' : Nat) (cs' : List Value) (p' : List MemPlace), DataW.trod enc Tryz.prog w base spare held n' e cs' = some (x, p') := by
 rcases Deep.open_slice ht h with ⟨_, hx⟩ | ⟨a, len, cap, m, n2, D, Pl, _, hb, hle, hm, hmm, hx, hel⟩
 ·injection hx with hx _;subst hx;exact ⟨by show 0 < _; decide, fun y hy => absurd hy y07⟩
 ·injection hx with hx _;subst hx;have hlm : len <= m := by rw [hmm]; split <;> omega
  refine ⟨?_, fun x hx => ?_⟩
  ·show ((List.range len).map D).length < _;rw [y06, y2j];have : maxLen = 9223372036854775807 := rfl;omega
  ·have hx' : x ∈ (List.range len).map D := hx;obtain ⟨i, hi, rfl⟩ := y0p.1 hx';obtain ⟨cs', h1, h3⟩ := hel i (by have := y0n.1 hi; omega)
   exact ⟨_, _, _, h3⟩
theorem zqz {t : TypeId} {fs : Array Field} (ht : Tryz.prog.underlying t = some (.struct fs)) {n : Nat} {cs : List Value} {d : DataW H} {p : List MemPlace} (h : DataW.trod enc Tryz.prog w base spare held n t cs = some (d, p))
  {i : Nat} {f : Field} (hi : fs[i]? = some f) : ∃ (n' : Nat) (cs' : List Value) (p' : List MemPlace), DataW.trod enc Tryz.prog w base spare held n' f.type cs' = some (fD i d, p') := by
 obtain ⟨xs, n', _, hx, hlen, hxl, hall⟩ := DataW.trod_struct ht h;simp only [y0b] at hx;obtain ⟨rfl, rfl⟩ := hx;have h2 := hall i f hi;have hlt : i < xs.length := by
  rw [hxl];exact (y0f.1 hi).1
 have e1 : ∀ l : List (DataW H × List MemPlace), (hl : i < l.length) -> fD i (.agg (l.map (·.1))) = l[i].1 := fun l hl => by
  unfold fD;show ((l.map (·.1)).drop i).headD .nil = _;rw [<- List.map_drop, y0t hl];rfl
 rw [y0e hlt] at h2;refine ⟨_, _, (xs[i]).2, h2.trans (congrArg some ?_)⟩;rw [e1 xs hlt]
theorem zx9 {n : Nat} {cs : List Value} {d : DataW H} {p : List MemPlace} (h : DataW.trod enc Tryz.prog w base spare held n 9 cs = some (d, p)) : (strD d).length < 9223372036854775808 := by
 obtain ⟨z, rfl, hx, hl⟩ := DataW.trod_string Tryz.underlying9 h;simp only [y0b] at hx;obtain ⟨rfl, rfl⟩ := hx;show z.data.toList.length < _;have : maxLen = 9223372036854775807 := rfl;have e : z.size = z.data.size := rfl;rw [Array.length_toList];omega
theorem slimZ {n : Nat} {cs : List Value} {d : DataW H} {p : List MemPlace} (h : DataW.trod enc Tryz.prog w base spare held n 74 cs = some (d, p)) : Slim (exD d) :=
 zx4 Tryz.underlying74 rfl Tryz.underlying72 _ d (y08 _) _ _ _ h
theorem rd_D {n : Nat} {cs : List Value} {d : DataW H} {p : List MemPlace} (h : DataW.trod enc Tryz.prog w base spare held n 26 cs = some (d, p)) : Go.Proofs.YtdolbghhcijonaaGreat.Rd (ctD d) := by
 obtain ⟨_, _, _, h1⟩ := zqz Tryz.underlying26 h (i := 1) rfl;obtain ⟨_, _, _, h2⟩ := zqz Tryz.underlying26 h (i := 2) rfl;obtain ⟨_, _, _, h3⟩ := zqz Tryz.underlying26 h (i := 3) rfl;obtain ⟨_, _, _, h4⟩ := zqz Tryz.underlying26 h (i := 4) rfl;have a1 := sl_el Tryz.underlying22 h1;have a2 := sl_el Tryz.underlying23 h2;have a3 := sl_el Tryz.underlying24 h3;have a4 := sl_el Tryz.underlying24 h4;refine ⟨?_, ?_, ?_, ?_, fun i hi => ?_, fun s hs => ?_⟩
 ·show ((zch _).map strD).length < _;rw [y06];exact a1.1
 ·show ((zch _).map sgD).length < _;rw [y06];exact a2.1
 ·show ((zch _).map zry).length < _;rw [y06];exact a3.1
 ·show ((zch _).map zry).length < _;rw [y06];exact a4.1
 ·unfold nA;rw [y0k, y0e hi];have hm := y13 hi;obtain ⟨x, hx, e⟩ := y0p.1 hm;show (List.length ((ctD d).ins[i])) < _;rw [<- e];obtain ⟨_, _, _, g⟩ := a1.2 x hx;exact zx9 g
 ·obtain ⟨x, hx, rfl⟩ := y0p.1 hs;obtain ⟨_, _, _, g⟩ := a2.2 x hx;obtain ⟨_, _, _, g0⟩ := zqz Tryz.underlying77 g (i := 0) rfl;obtain ⟨_, _, _, g2⟩ := zqz Tryz.underlying77 g (i := 2) rfl;obtain ⟨_, _, _, g3⟩ := zqz Tryz.underlying77 g (i := 3) rfl;exact ⟨slimZ g2, slimZ g3, zx9 g0⟩
end
end Go.Proofs.YtdolbghhcijonaaGreat
