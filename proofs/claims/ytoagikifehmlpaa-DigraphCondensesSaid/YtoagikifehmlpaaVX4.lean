/-
  THE NUMBERS OF THE COMPONENTS, in plain Lean.; THE COMPONENTS: components walked.; THE COMPONENTS AS LISTS, in plain Lean.; THE COMPONENTS: Components walked.; THE CONDENSED GRAPH, in plain Lean.; THE CONDENSED GRAPH: Condense walked.; THE ORDER: Order and Layers walked.; CYCLES: plain law; a list behind a literal; Cycle walked.; Reversing twice changes nothing: the law.; PATHS OF THE CONDENSED GR
-/
import Derived.Test.YtoagikifehmlpaaVX3
namespace Go.Proofs.Ytoagikifehmlpaa
open Go Go.Am
def kys (g : List Int) : Nat → List Int
 | 0 => []
 | i + 1 => if gI g i ∈ kys g i then kys g i else kys g i ++ [gI g i]
theorem ztq (g : List Int) (i : Nat) : gI g i ∈ kys g (i + 1) := by
 rw [kys]
 split
 ·assumption
 ·simp
theorem zp3 {g : List Int} {x : Int} {i : Nat} (h : x ∈ kys g i) : x ∈ kys g (i + 1) ∧ (kys g (i + 1)).idxOf x = (kys g i).idxOf x := by
 rw [kys]
 split
 ·exact ⟨h, rfl⟩
 ·exact ⟨List.mem_append_left _ h, by rw [List.idxOf_append, if_pos h]⟩
theorem ztp (g : List Int) : ∀ i, (kys g i).length ≤ i
 | 0 => Nat.le_refl _
 | i + 1 => by
  have := ztp g i
  rw [kys]
  split
  ·omega
  ·rw [List.length_append, List.length_singleton]; omega
def zd4 : List Int → Nat → List (AV × AV)
 | [], _ => []
 | k :: ks, j => (.int .i64 k, .int .i64 (j : Nat)) :: zd4 ks (j + 1)
theorem zib : ∀ (ks : List Int) (j : Nat), (zd4 ks j).length = ks.length
 | [], _ => rfl
 | k :: ks, j => by rw [zd4, List.length_cons, List.length_cons, zib ks]
theorem zn9 (k : Int) : ∀ (ks : List Int) (j : Nat), zck .int (.int .i64 k) (zd4 ks j) = some (if k ∈ ks then some (.int .i64 ((j + ks.idxOf k : Nat) : Int)) else none)
 | [], j => by rw [if_neg List.not_mem_nil]; rfl
 | x :: ks, j => by
  have ih := zn9 k ks (j + 1)
  by_cases e : k = x
  ·subst e
   rw [if_pos (List.mem_cons_self ..), List.idxOf_cons_self]
   show (match (if IntKind.i64 = IntKind.i64 then some (k == k) else none) with | some true => some (some (AV.int .i64 (j : Nat))) | some false => zck .int (.int .i64 k) (zd4 ks (j + 1)) | none => none) = _
   rw [if_pos rfl, beq_self_eq_true]
   rfl
  ·have hm : k ∈ x :: ks ↔ k ∈ ks := ⟨fun h => (List.mem_cons.1 h).resolve_left e, List.mem_cons_of_mem _⟩
   show (match (if IntKind.i64 = IntKind.i64 then some (k == x) else none) with | some true => some (some (AV.int .i64 (j : Nat))) | some false => zck .int (.int .i64 k) (zd4 ks (j + 1)) | none => none) = _
   rw [if_pos rfl, show (k == x) = false from beq_eq_false_iff_ne.2 e]
   show zck .int (.int .i64 k) (zd4 ks (j + 1)) = _
   rw [ih]
   by_cases c : k ∈ ks
   ·rw [if_pos c, if_pos (hm.2 c), List.idxOf_cons, show (x == k) = false from beq_eq_false_iff_ne.2 fun h => e h.symm, cond_false]
    congr 3
    omega
   ·rw [if_neg c, if_neg fun h => c (hm.1 h)]
theorem zv3 (k : Int) (v : AV) : ∀ (ks : List Int) (j : Nat), k ∉ ks → zdc .int (.int .i64 k) v (zd4 ks j) = some (zd4 ks j ++ [(.int .i64 k, v)])
 | [], j, _ => rfl
 | x :: ks, j, h => by
  have ih := zv3 k v ks (j + 1) fun h2 => h (List.mem_cons_of_mem _ h2)
  have e : ¬ k = x := fun e => h (by rw [e]; exact List.mem_cons_self ..)
  show (match (if IntKind.i64 = IntKind.i64 then some (k == x) else none) with | some true => some ((AV.int .i64 k, v) :: zd4 ks (j + 1)) | some false => (zdc .int (.int .i64 k) v (zd4 ks (j + 1))).map ((AV.int .i64 x, AV.int .i64 (j : Nat)) :: ·) | none => none) = _
  rw [if_pos rfl, show (k == x) = false from beq_eq_false_iff_ne.2 e]
  show (zdc .int (.int .i64 k) v (zd4 ks (j + 1))).map _ = _
  rw [ih]
  rfl
theorem zjc : ∀ (ks : List Int) (j : Nat) (k : Int), zd4 (ks ++ [k]) j = zd4 ks j ++ [(.int .i64 k, .int .i64 ((j + ks.length : Nat) : Int))]
 | [], j, k => rfl
 | x :: ks, j, k => by
  rw [List.cons_append, zd4, zjc ks, zd4, List.length_cons, show j + 1 + ks.length = j + (ks.length + 1) by omega]
  rfl
def zp9 (E : List (Nat × Nat)) (m x y : Nat) : Bool := decide (gI (zef E m x m) y ≥ 0) && decide (gI (zef E m y m) x ≥ 0)
theorem zcn {E : List (Nat × Nat)} {m x y : Nat} (hb : ∀ u v, (u, v) ∈ E → u < m ∧ v < m) (hx : x < m) (hy : y < m) : zp9 E m x y = true ↔ Mut E x y := by
 unfold zp9 Mut Rch
 rw [Bool.and_eq_true, decide_eq_true_eq, decide_eq_true_eq]
 exact and_congr (zex hb hx) (zex hb hy)
def rps (E : List (Nat × Nat)) (m i : Nat) : List Nat := (List.range i).filter fun v => (List.range v).all fun u => !zp9 E m u v
theorem rps_succ (E : List (Nat × Nat)) (m i : Nat) : rps E m (i + 1) = if ((List.range i).all fun u => !zp9 E m u i) = true then rps E m i ++ [i] else rps E m i := by
 unfold rps
 rw [List.range_succ, List.filter_append, List.filter_cons]
 split
 ·rfl
 ·rw [List.filter_nil, List.append_nil]
def zr6 (E : List (Nat × Nat)) (m v : Nat) : Nat := ((List.range m).find? fun u => zp9 E m u v).getD 0
def cmpL (E : List (Nat × Nat)) (m : Nat) : List Int := (List.range m).map fun v => (((rps E m m).idxOf (zr6 E m v) : Nat) : Int)
theorem zkv {E : List (Nat × Nat)} {m v : Nat} (hb : ∀ u v, (u, v) ∈ E → u < m ∧ v < m) (hv : v < m) : Mut E (zr6 E m v) v ∧ zr6 E m v ≤ v ∧ ∀ u, u < zr6 E m v → ¬ Mut E u v := by
 have hself : zp9 E m v v = true := (zcn hb hv hv).2 ⟨Rch.refl E v, Rch.refl E v⟩
 unfold zr6
 cases hf : (List.range m).find? fun u => zp9 E m u v with
 | none => exact absurd hself (List.find?_eq_none.1 hf v (List.mem_range.2 hv))
 | some r =>
  obtain ⟨h1, h2, h3⟩ := List.find?_range_eq_some.1 hf
  rw [List.mem_range] at h2
  refine ⟨(zcn hb h2 hv).1 h1, Nat.le_of_not_lt fun hlt => ?_, fun u hu mu => ?_⟩
  ·have := h3 v hlt
   rw [hself] at this
   cases this
  ·have hu : u < r := hu
   have := h3 u hu
   rw [(zcn hb (by omega) hv).2 mu] at this
   cases this
theorem zep {E : List (Nat × Nat)} {m v : Nat} (hb : ∀ u v, (u, v) ∈ E → u < m ∧ v < m) {i : Nat} (hi : i ≤ m) : v ∈ rps E m i ↔ v < i ∧ ∀ u, u < v → ¬ Mut E u v := by
 unfold rps
 rw [List.mem_filter, List.mem_range, List.all_eq_true]
 constructor
 ·rintro ⟨h1, h2⟩
  refine ⟨h1, fun u hu mu => ?_⟩
  have := h2 u (List.mem_range.2 hu)
  rw [(zcn hb (by omega) (by omega)).2 mu] at this
  cases this
 ·rintro ⟨h1, h2⟩
  refine ⟨h1, fun u hu => ?_⟩
  rw [List.mem_range] at hu
  cases hc : zp9 E m u v with
  | false => rfl
  | true => exact absurd ((zcn hb (by omega) (by omega)).1 hc) (h2 u hu)
theorem zh8 {E : List (Nat × Nat)} {m v : Nat} (hb : ∀ u v, (u, v) ∈ E → u < m ∧ v < m) {i : Nat} (hi : i ≤ m) (hv : v < i) : zr6 E m v ∈ rps E m i := by
 obtain ⟨h1, h2, h3⟩ := zkv hb (show v < m by omega)
 exact (zep hb hi).2 ⟨by omega, fun u hu mu => h3 u hu (mu.trans h1)⟩
theorem ztj {f : Nat → Int} {x : Nat} : ∀ {l : List Nat}, (∀ y ∈ l, f y = f x → y = x) → (l.map f).idxOf (f x) = l.idxOf x
 | [], _ => rfl
 | y :: l, h => by
  rw [List.map_cons, List.idxOf_cons, List.idxOf_cons, ztj fun z hz => h z (List.mem_cons_of_mem _ hz)]
  by_cases e : y = x
  ·rw [e, beq_self_eq_true, beq_self_eq_true]
  ·rw [show (f y == f x) = false from beq_eq_false_iff_ne.2 fun h2 => e (h y (List.mem_cons_self ..) h2), show (y == x) = false from beq_eq_false_iff_ne.2 e]
theorem znc {E : List (Nat × Nat)} {m : Nat} {C : List Nat} {g : List Int} (hC : Cls E m C) (h : Grp E m C 0 g) : ∀ v, v < m → 0 ≤ gI g v := fun v hv => by
 have hm := all_in hC.nd hC.lt (Nat.le_of_eq hC.len.symm) v hv
 obtain ⟨i, h1, h2⟩ := List.mem_iff_getElem.1 hm
 have := h.done i (Nat.zero_le _) (by rw [hC.len] at h1; exact h1)
 rw [← zn5 h1, h2] at this
 exact this
theorem ztr {E : List (Nat × Nat)} {m : Nat} {C : List Nat} {g : List Int} (hb : ∀ u v, (u, v) ∈ E → u < m ∧ v < m) (hC : Cls E m C) (h : Grp E m C 0 g) : ∀ i, i ≤ m → kys g i = (rps E m i).map (gI g)
 | 0, _ => rfl
 | i + 1, hi => by
  have ih := ztr hb hC h i (by omega)
  have hall := znc hC h
  have hiff : gI g i ∈ kys g i ↔ ¬ ((List.range i).all fun u => !zp9 E m u i) = true := by
   rw [ih, List.mem_map]
   constructor
   ·rintro ⟨u, hu, e⟩ ha
    have hu2 := (zep hb (by omega)).1 hu
    have mu := (h.same u i (hall u (by omega)) (hall i (by omega))).1 e
    have := List.all_eq_true.1 ha u (List.mem_range.2 hu2.1)
    rw [(zcn hb (by omega) (by omega)).2 mu] at this
    cases this
   ·intro ha
    have : ∃ u, u < i ∧ zp9 E m u i = true := by
     refine Classical.byContradiction fun hc => ha (List.all_eq_true.2 fun u hu => ?_)
     cases hb2 : zp9 E m u i with
     | false => rfl
     | true => exact absurd ⟨u, List.mem_range.1 hu, hb2⟩ hc
    obtain ⟨u, hu, hmu⟩ := this
    have mu := (zcn hb (by omega) (by omega)).1 hmu
    have r1 := (zkv hb (show u < m by omega))
    exact ⟨zr6 E m u, zh8 hb (by omega) hu, (h.same _ i (hall _ (by omega)) (hall i (by omega))).2 (r1.1.trans mu)⟩
  rw [kys, rps_succ]
  by_cases c : ((List.range i).all fun u => !zp9 E m u i) = true
  ·rw [if_pos c, if_neg (fun h2 => hiff.1 h2 c), ih, List.map_append]
   rfl
  ·rw [if_neg c, if_pos (hiff.2 c), ih]
theorem cmp_eq {E : List (Nat × Nat)} {m : Nat} {C : List Nat} {g : List Int} (hb : ∀ u v, (u, v) ∈ E → u < m ∧ v < m) (hC : Cls E m C) (h : Grp E m C 0 g) : ((List.range m).map fun v => (((kys g m).idxOf (gI g v) : Nat) : Int)) = cmpL E m ∧ (kys g m).length = (rps E m m).length := by
 have e := ztr hb hC h m (Nat.le_refl _)
 have hall := znc hC h
 refine ⟨?_, by rw [e, List.length_map]⟩
 unfold cmpL
 refine List.map_congr_left fun v hv => ?_
 rw [List.mem_range] at hv
 obtain ⟨r1, r2, r3⟩ := zkv hb hv
 have hg : gI g v = gI g (zr6 E m v) := ((h.same _ _ (hall _ (by omega)) (hall v hv)).2 r1).symm
 rw [e, hg, ztj fun y hy e2 => ?_]
 have hy2 := (zep hb (Nat.le_refl m)).1 hy
 have mu := (h.same _ _ (hall y hy2.1) (hall _ (by omega))).1 e2
 have hr2 := (zep hb (Nat.le_refl m)).1 (zh8 hb (Nat.le_refl m) hv)
 rcases Nat.lt_trichotomy y (zr6 E m v) with c | c | c
 ·exact absurd mu (hr2.2 y c)
 ·exact c
 ·exact absurd mu.symm (hy2.2 _ c)
end Go.Proofs.Ytoagikifehmlpaa
namespace Go.Proofs.Ytoagikifehmlpaa
open Go Go.Am
section
variable {P : Program} {w0 : World} {N0 : Nat} {k : List Fr} {Q : Exit → AS → Prop} {pf : Kn} {ios : List Opr} {n nx ck : Nat} {mk : List (Nat × Nat)} {md : Md} {l : List (Nat × AV)} {hp : List (Nat × Nat × AObj)}
theorem zh3 {d : Nat} {kz : IntKind} {z : Int} {ok : Bool} {ma ka : Arg} {id sp : Nat} {es : List (AV × AV)} {kv : AV} {r : Option AV} (hm : zas ma l = some (.mapv id sp)) (hk : zas ka l = some kv) (hl : Am.look id hp = some (sp, .map es)) (hg : zck .int kv es = some r)
  (go : Om P w0 N0 md pf ios (st n ((d, zka ok (.int kz z) r) :: l) hp nx ck mk) k Q) (hx : Ops pf (st n l hp nx ck mk) (.mapget .int (.int kz z) ok ma ka) := by exact trivial) :
  Om P w0 N0 md pf (⟨some d, .mapget .int (.int kz z) ok ma ka, none⟩ :: ios) (st n l hp nx ck mk) k Q := by
 refine ze2 ?_ go hx
 simp only [iop, zao, hm, hk, AS.mapget, show (st n l hp nx ck mk).heap = hp from rfl, hl, if_true, hg]
 rfl
theorem zpd {d : Nat} {ok : Bool} {ma ka : Arg} {id sp : Nat} {es : List (AV × AV)} {kv : AV} (hm : zas ma l = some (.mapv id sp)) (hk : zas ka l = some kv) (hl : Am.look id hp = some (sp, .map es))
  (go : Om P w0 N0 md pf ios (st n ((d, .int .i64 (es.length : Nat)) :: l) hp nx ck mk) k Q) (hx : Ops pf (st n l hp nx ck mk) (.mapget .int .top ok ma ka) := by exact trivial) :
  Om P w0 N0 md pf (⟨some d, .mapget .int .top ok ma ka, none⟩ :: ios) (st n l hp nx ck mk) k Q := by
 refine ze2 ?_ go hx
 simp only [iop, zao, hm, hk, AS.mapget, show (st n l hp nx ck mk).heap = hp from rfl, hl, if_true]
 rfl
theorem o_mapset {ma ka va : Arg} {id sp : Nat} {es es' : List (AV × AV)} {kv v : AV} (hm : zas ma l = some (.mapv id sp)) (hk : zas ka l = some kv) (hv : zas va l = some v) (hl : Am.look id hp = some (sp, .map es)) (hg : zdc .int kv v es = some es')
  (go : Om P w0 N0 md pf ios (st n l (zbc id (sp, .map es') hp) nx ck mk) k Q) (hx : Ops pf (st n l hp nx ck mk) (.mapset .int ma ka va) := by exact trivial) :
  Om P w0 N0 md pf (⟨none, .mapset .int ma ka va, none⟩ :: ios) (st n l hp nx ck mk) k Q := by
 refine o_op0 (v := .tup []) ?_ go hx
 simp only [iop, zao, hm, hk, hv, AS.mapset, show (st n l hp nx ck mk).heap = hp from rfl, hl, if_true, hg]
 rfl
theorem o_mkmap {d : Nat} (go : Om P w0 N0 md pf ios (st n ((d, .mapv nx ck) :: l) ((nx, ck, .map []) :: hp) (nx + 1) (ck + 1) mk) k Q) (hx : Ops pf (st n l hp nx ck mk) .mkmap := by exact trivial) :
  Om P w0 N0 md pf (⟨some d, .mkmap, none⟩ :: ios) (st n l hp nx ck mk) k Q :=
 ze2 rfl go hx
end
theorem zup (m : Nat) : zeg m [AV.bool false] = (List.replicate m false).map AV.bool := by
 induction m with
 | zero => rfl
 | succ m ih => rw [zeg, ih, List.replicate_succ, List.map_cons]; rfl
theorem zm6 : ∀ s : List Bool, hasM.hasML (s.map AV.bool) = false
 | [] => rfl
 | b :: s => by
  show (hasM (AV.bool b) || hasM.hasML (s.map AV.bool)) = false
  rw [zm6 s]
  rfl
theorem noM_cN (E : List (Nat × Nat)) (m : Nat) : hasM (cN E m) = false := rfl
theorem noM1 (E : List (Nat × Nat)) (m : Nat) : hasM.hasML [cN E m] = false := rfl
def cmpV (E : List (Nat × Nat)) (m : Nat) : AV := .tup [vsI (cmpL E m), .int .i64 ((rps E m m).length : Nat)]
theorem z_cls {P : Program} {w0 : World} {N0 n nx ck : Nat} {k : List Fr} {Q : Exit → AS → Prop} {ic : IC} {l : List (Nat × AV)} {hp : List (Nat × Nat × AObj)} {a b qv : AV} {q : List Int} (h1 : zbi 1 l = some a) (ma : hasM a = false) (h5 : zbi 5 l = some b) (mb : hasM b = false) (h7 : zbi 7 l = some (.mptr 3 0 0)) (hc : Am.look 3 hp = some (0, .cells [qv])) (hG : Gv 3 q qv hp nx)
  (go : Zm P w0 N0 none ic (st n [(1, a), (5, b), (7, .mptr 0 0 0)] [(0, 0, .cells [vsI q])] 1 1) k Q) : Zm P w0 N0 none ic (st n l hp nx ck) k Q := by
 rcases hG with ⟨rfl, rfl⟩ | ⟨id, sp, rfl, hl, h3, _⟩
 ·exact zb6 [(some (3, 0), [vsI []])] [] [(1, a), (5, b), (7, .mptr 0 0 0)] rfl .nil (.cons hc (.cons .nilvs .nil) .nil) (.cons h1 (.same ma) (.cons h5 (.same mb) (.cons h7 (.mptr rfl) .nil))) go
 ·have hok : okW [id] [(some (3, 0), [vsI q])] = true := by
   show (!zko 3 [id] && true) = true
   have : zko 3 [id] = false := by
    cases hb : zko 3 [id] with
    | false => rfl
    | true => have := List.mem_singleton.1 (zey.1 hb); omega
   rw [this]
   rfl
  have hfz : fzl id sp [(id, sp, q.map (AV.int .i64))] = some (q.map (AV.int .i64)) := by
   unfold fzl
   simp
  refine zb6 [(some (3, 0), [vsI q])] [(id, sp, q.map (AV.int .i64))] [(1, a), (5, b), (7, .mptr 0 0 0)] hok (.cons hl (zdw _) .nil) (.cons hc (.cons (.fms hfz (List.length_map ..) (fun x hx => by obtain ⟨s, _, rfl⟩ := List.mem_map.1 hx; rfl) ⟨[], ?_⟩) .nil) .nil) (.cons h1 (.same ma) (.cons h5 (.same mb) (.cons h7 (.mptr rfl) .nil))) go
  rw [List.drop_zero, List.append_nil]
  exact zfs q
theorem zvc : ∀ m : Nat, unF (List.replicate m false) = m
 | 0 => rfl
 | m + 1 => by
  have := zvc m
  unfold unF at this ⊢
  rw [List.replicate_succ, List.filter_cons, if_pos (show (!false) = true from rfl), List.length_cons, this]
def lv43 (E : List (Nat × Nat)) (m : Nat) : zg5 := [(some (1, 2), [.ms 1 0 1 0 m (some m)]), (some (0, 1), (List.replicate m false).map AV.bool), (some (3, 4), [.fn 60 [] [.mptr 0 0 0, .vptr [cN E m], .mptr 2 0 0, .mptr 3 0 0]]), (some (2, 3), [.nils])]
theorem fnR (E : List (Nat × Nat)) (m : Nat) : RenW (lv43 E m) [] (.fn 60 [] [.mptr 1 2 0, .vptr [cN E m], .mptr 3 4 0, .mptr 2 3 0]) (.fn 60 [] [.mptr 0 0 0, .vptr [cN E m], .mptr 2 0 0, .mptr 3 0 0]) :=
 .fn rfl rfl (fun i x y e _ => by simp at e) fun i x y e1 e2 => by
  match i, e1, e2 with
  | 0, e1, e2 =>
   obtain rfl := Option.some.inj e1
   obtain rfl := Option.some.inj e2
   exact .mptr rfl
  | 1, e1, e2 =>
   obtain rfl := Option.some.inj e1
   obtain rfl := Option.some.inj e2
   exact .same rfl
  | 2, e1, e2 =>
   obtain rfl := Option.some.inj e1
   obtain rfl := Option.some.inj e2
   exact .mptr rfl
  | 3, e1, e2 =>
   obtain rfl := Option.some.inj e1
   obtain rfl := Option.some.inj e2
   exact .mptr rfl
  | i + 4, e1, e2 => simp at e1
def lw43 (E : List (Nat × Nat)) (m : Nat) (C : List Nat) : zg5 := [(some (3, 3), [.ms 1 0 1 0 m (some m)]), (some (2, 2), (List.replicate m (-1 : Int)).map (AV.int .i64)), (some (4, 4), [.fn 62 [] [.mptr 0 0 0, .vptr [cN (rvE E) m], .mptr 2 0 0]]), (some (0, 0), [vsI (iL C)])]
theorem fnS (E : List (Nat × Nat)) (m : Nat) (C : List Nat) : RenW (lw43 E m C) [] (.fn 62 [] [.mptr 3 3 0, .vptr [cN (rvE E) m], .mptr 4 4 0]) (.fn 62 [] [.mptr 0 0 0, .vptr [cN (rvE E) m], .mptr 2 0 0]) :=
 .fn rfl rfl (fun i x y e _ => by simp at e) fun i x y e1 e2 => by
  match i, e1, e2 with
  | 0, e1, e2 =>
   obtain rfl := Option.some.inj e1
   obtain rfl := Option.some.inj e2
   exact .mptr rfl
  | 1, e1, e2 =>
   obtain rfl := Option.some.inj e1
   obtain rfl := Option.some.inj e2
   exact .same rfl
  | 2, e1, e2 =>
   obtain rfl := Option.some.inj e1
   obtain rfl := Option.some.inj e2
   exact .mptr rfl
  | i + 3, e1, e2 => simp at e1
set_option maxHeartbeats 8000000 in
theorem zgk (m : Nat) (hm : m ≤ 12) (E : List (Nat × Nat)) (hE : E.length ≤ 4096) (hb : ∀ u v, (u, v) ∈ E → u < m ∧ v < m) : PF Try.prog 43 [cG (m : Nat) (zaf E)] (cmpV E m) := by
 have ez : ∀ o : Nat, 0 + ((o : Nat) : Int).toNat * 1 = o := fun o => by simp
 have p45 := zdb m (by omega) E (by omega) hb
 have p47 := zjn (m : Nat) (zaf E) (by unfold zaf; rw [List.length_map]; omega)
 rw [zpy] at p47
 have p45r := zdb m (by omega) (rvE E) (by rw [zux]; omega) (ziq hb)
 have hlen : ((List.range m).map fun v => ([vN (nbr E m v)] : List AV)).length = m := by rw [List.length_map, List.length_range]
 refine zbg env0_ok fn43 [(0, .agg [.int .i64 (m : Nat), .vs (cE (zaf E))])] (by show 1 ≤ 80; decide) rfl fun w0 N0 => ?_
 unfold ic43
 refine za7 (za0 rfl (zel rfl rfl (za5 rfl (za5 rfl (za6 (za4 ?_))))))
 refine zb6 [] [(0, 0, [.int .i64 (m : Nat), .vs (cE (zaf E))])] (zf4 [.int .i64 (m : Nat), .vs (cE (zaf E))]) rfl (.cons rfl rfl .nil) .nil (.cons rfl (.fptr rfl rfl) .nil) ?_
 refine za7 (nets43 [.int .i64 (m : Nat), .vs (cE (zaf E))] (cN E m) (cG (m : Nat) (zaf (rvE E))) (cN (rvE E) m) rfl rfl rfl rfl rfl rfl rfl (noM_cN E m) (noM_cN (rvE E) m) (fun S => rfl) (fun S => rfl) p45 p47 p45r ?_)
 refine zb6 [] [(0, 0, [cN E m]), (1, 0, [cN (rvE E) m])] [(1, .vptr [.int .i64 (m : Nat), .vs (cE (zaf E))]), (4, .vptr [cN E m]), (5, .vptr [cN (rvE E) m])] rfl (.cons rfl (noM1 E m) (.cons rfl (noM1 (rvE E) m) .nil)) .nil (.cons rfl (.same rfl) (.cons rfl (.fptr rfl rfl) (.cons rfl (.fptr rfl rfl) .nil))) ?_
 repeat (first | refine za7 ?_ | refine za0 rfl ?_ | refine zad rfl rfl ?_ | refine zam rfl rfl rfl ?_)
 refine o_mks rfl rfl ⟨Int.natCast_nonneg m, Int.le_refl _, by omega, by decide⟩ ?_
 repeat (first | refine za7 ?_ | refine za0 rfl ?_ | refine za6 ?_ | refine za4 ?_ | refine zac ?_ | refine za5 rfl ?_ | refine zad rfl rfl ?_ | refine zbx rfl rfl rfl rfl rfl rfl rfl ?_ | refine zcd ?_ | refine zc4 rfl rfl ?_ | refine zpe rfl rfl ?_)
 refine zb6 (lv43 E m) [] [(1, .vptr [.int .i64 (m : Nat), .vs (cE (zaf E))]), (5, .vptr [cN (rvE E) m]), (7, .mptr 3 0 0), (8, .mptr 2 0 0), (28, cN E m), (29, .int .i64 (m : Nat)), (30, .int .i64 ((0 : Nat) : Int))] rfl .nil
  (.cons rfl (.cons (.ms rfl) .nil) (.cons rfl (by rw [Int.toNat_natCast, zup]; exact .keep (zm6 _)) (.cons rfl (.cons (fnR E m) .nil) (.cons rfl (.cons (.same rfl) .nil) .nil))))
  (.cons rfl (.same rfl) (.cons rfl (.same rfl) (.cons rfl (.mptr rfl) (.cons rfl (.mptr rfl) (.cons rfl (.same rfl) (.cons (by exact congrArg (fun z : Nat => some (AV.int .i64 (z : Nat))) hlen) (.same rfl) (.cons rfl (.same rfl) .nil))))))) ?_
 have hsn0 : unF (List.replicate m false) = m := zvc m
 refine zc1 (fun mm S => ∃ i C hp nx ck, mm = m - i ∧ i ≤ m ∧ Vis E m (List.replicate m false) (List.range i) C ∧ VM E m 0 0 0 0 (mrk (List.replicate m false) C) (iL C) hp nx ∧ S = st 80 [(1, .vptr [.int .i64 (m : Nat), .vs (cE (zaf E))]), (5, .vptr [cN (rvE E) m]), (7, .mptr 3 0 0), (8, .mptr 2 0 0), (29, .int .i64 (m : Nat)), (30, .int .i64 (i : Nat))] hp nx ck) m
  (zaa (.cons rfl (.cons rfl (.cons rfl (.cons rfl (.cons rfl (.cons rfl .nil))))))) ⟨0, [], _, _, _, rfl, Nat.zero_le _, .nil _, ⟨rfl, rfl, rfl, ⟨.nils, rfl, .inl ⟨rfl, rfl⟩⟩, by show 3 < 4; decide⟩, rfl⟩ ?_
 rintro mm S ⟨i, C, hp, nx, ck, rfl, hi, hV, hM, rfl⟩
 have hnx := hM.nx
 have hvu := zvj hb hV (List.length_replicate ..) fun y hy => by rw [List.mem_range] at hy; omega
 unfold b43_0
 repeat (first | refine za7 ?_ | refine za0 rfl ?_)
 refine zax rfl rfl rfl (fun h3 => ?_) fun h3 => ?_
 ·have hlt : i < m := Int.ofNat_lt.1 (of_decide_eq_true h3)
  have w1 : IntKind.wrap .i64 (((i : Nat) : Int) + 1) = ((i + 1 : Nat) : Int) := zap i (by omega)
  have hft := visit60 m (by omega) E hb w0 N0 0 0 0 0 (unF (mrk (List.replicate m false) C) + 1) (mrk (List.replicate m false) C) (iL C) i ⟨hp, nx, ck⟩ (Nat.lt_succ_self _) (by rw [zig, List.length_replicate]) hlt (by rw [zgm]; omega) hM
  repeat (first | refine za7 ?_ | refine za0 rfl ?_ | refine za6 ?_ | refine za4 ?_ | refine zac ?_ | refine zal ?_ | refine zd2 rfl ?_ | refine za5 rfl ?_)
  refine zaj (id := 2) (sp := 0) (off := 0) rfl hM.hw (by omega) rfl ?_
  repeat (first | refine za5 rfl ?_)
  refine o_ct _ rfl rfl (zsh hft) (fun _ _ _ _ hm => absurd hm List.not_mem_nil) fun r H' hF => ?_
  obtain ⟨D2, hV2, hM2⟩ := hF
  obtain ⟨hp', nx', ck'⟩ := H'
  show Om _ _ _ _ _ _ (st 80 _ hp' nx' ck') _ _
  have hV3 : Vis E m (List.replicate m false) (List.range (i + 1)) (C ++ D2) := by rw [List.range_succ]; exact hV.snoc hV2
  repeat (first | refine za0 rfl ?_ | refine za6 ?_ | refine za4 ?_ | refine zc5 ?_ | refine za5 rfl ?_ | refine zbp (op := .add) rfl rfl rfl ?_)
  rw [w1]
  refine zar (show m - (i + 1) < m - i by omega) (zaa (.cons rfl (.cons rfl (.cons rfl (.cons rfl (.cons rfl (.cons rfl .nil))))))) ⟨i + 1, C ++ D2, _, _, _, rfl, hlt, hV3, ?_, rfl⟩
  rw [znq, iL_app]
  exact hM2
 ·have hie : i = m := by
   have h4 : ¬ ((i : Nat) : Int) < ((m : Nat) : Int) := of_decide_eq_false h3
   omega
  subst hie
  have hC := cls_ok hb hV
  obtain ⟨qv, hc, hG⟩ := hM.hc
  repeat (first | refine za7 ?_ | refine za6 ?_ | refine za4 ?_ | refine zd5 rfl ?_ | refine zc0 ?_ | refine zag ?_)
  refine zdj ?_
  repeat (first | refine za7 ?_ | refine za4 ?_ | refine zby ?_)
  refine z_cls rfl rfl rfl rfl rfl hc hG ?_
  refine za0 rfl ?_
  repeat (first | refine zad rfl rfl ?_ | refine zam rfl rfl rfl ?_ | refine zbr rfl rfl ?_)
  refine o_own rfl rfl (zpm hm) (zdf _) ?_
  repeat (first | refine za7 ?_ | refine za6 ?_ | refine za4 ?_ | refine zbx rfl rfl rfl rfl rfl rfl rfl ?_ | refine zcd ?_)
  refine za0 rfl ?_
  repeat (first | refine za7 ?_ | refine za6 ?_ | refine za4 ?_ | refine zcd ?_)
  refine za0 rfl ?_
  repeat (first | refine za7 ?_ | refine za6 ?_ | refine za4 ?_ | refine zbx rfl rfl rfl rfl rfl rfl rfl ?_ | refine zpe rfl rfl ?_)
  refine zb6 (lw43 E i C) [] [(1, .vptr [.int .i64 (i : Nat), .vs (cE (zaf E))]), (7, .mptr 3 0 0), (10, .mptr 0 0 0), (11, .mptr 2 0 0)] rfl .nil
   (.cons rfl (.cons (.ms rfl) .nil) (.cons rfl (.keep (zdw _)) (.cons rfl (.cons (fnS E i C) .nil) (.cons rfl (.cons (.same rfl) .nil) .nil))))
   (.cons rfl (.same rfl) (.cons rfl (.mptr rfl) (.cons rfl (.mptr rfl) (.cons rfl (.mptr rfl) .nil)))) ?_
  have p63 := zq8 (iL C)
  refine za0 rfl ?_
  repeat (first | refine zad rfl rfl ?_)
  refine zb3 rfl rfl p63 (fun h => Bool.noConfusion (show false = true from h)) ?_
  repeat (first | refine za6 ?_ | refine za4 ?_ | refine zac ?_)
  refine zvo (zaa (l' := l43 C [.int .i64 (i : Nat), .vs (cE (zaf E))]) (.cons rfl (.cons rfl (.cons rfl (.cons rfl .nil))))) ?_
  refine z_range (.inl rfl) rfl fun ha hbb => (range72 (show i ≤ 256 by omega) hC.len (fun k g H hk hG hQ => yield43 (show i ≤ 256 by omega) hb hC ha hbb k g H hk hG hQ) ⟨_, _, _⟩ (List.replicate i (-1)) Grp.start ⟨⟨rfl, rfl, rfl, by show 2 < 6; decide⟩, rfl, rfl, by show 5 < 6; decide⟩).mono fun v H2 hF => ?_
  obtain ⟨g, hG, gm, h4, h5, hnx⟩ := hF
  refine ⟨_, _, .normal, _, _, _, _, _, _, h5, by simp, rfl, fun z hz => ?_, ?_⟩
  ·obtain rfl := List.mem_singleton.1 hz
   show Am.look 4 (zd8 5 H2.heap) = _
   rw [zb4, if_neg (by decide)]
   exact h4
  ·have hall := znc hC hG
   obtain ⟨hce, hcl⟩ := cmp_eq hb hC hG
   have hgl := hG.len
   have hkl := ztp g
   repeat (first | refine za7 ?_ | refine za4 ?_ | refine zc5 ?_)
   refine zq (q := 1) rfl [(some (0, 0), [.ms 1 0 1 0 i (some i)]), (some (1, 0), g.map (AV.int .i64))] [] [(10, .mptr 0 0 0)] rfl .nil
    (.cons (by show Am.look 0 (zd8 5 H2.heap) = _; rw [zb4, if_neg (by decide)]; exact gm.h0) (.cons (.ms rfl) .nil) (.cons (by show Am.look 1 (zd8 5 H2.heap) = _; rw [zb4, if_neg (by decide)]; exact gm.h1) (.keep (zdw _)) .nil)) (.cons rfl (.mptr rfl) .nil) ?_
   refine za0 rfl ?_
   refine o_mkmap ?_
   repeat (first | refine za7 ?_ | refine za0 rfl ?_ | refine za6 ?_ | refine za4 ?_ | refine zac ?_ | refine za5 rfl ?_ | refine zad rfl rfl ?_ | refine zc4 rfl rfl ?_)
   refine zc1 (fun mm S => ∃ j o hp, mm = i - j ∧ j ≤ i ∧ o.length = i ∧ (∀ v, v < i → gI o v = if v < j then (((kys g j).idxOf (gI g v) : Nat) : Int) else gI g v) ∧ (∀ v, v < j → gI g v ∈ kys g j) ∧ Am.look 0 hp = some (0, .cells [.ms 1 0 1 0 i (some i)]) ∧ Am.look 1 hp = some (0, .cells (o.map (AV.int .i64))) ∧ Am.look 3 hp = some (1, .map (zd4 (kys g j) 0)) ∧ S = st 80 [(10, .mptr 0 0 0), (14, .mapv 3 1), (51, .ms 1 0 1 0 i (some i)), (52, .int .i64 (i : Nat)), (53, .int .i64 (j : Nat))] hp 4 2 (zmm 2 1)) i
    (zaa (.cons rfl (.cons rfl (.cons rfl (.cons rfl (.cons rfl .nil)))))) ⟨0, g, _, rfl, Nat.zero_le _, hgl, fun v _ => by rw [if_neg (Nat.not_lt_zero v)], fun v h => absurd h (Nat.not_lt_zero v), rfl, rfl, rfl, rfl⟩ ?_
   rintro mm S ⟨j, o, hp, rfl, hj, hol, hov, hkv, k0, k1, k3, rfl⟩
   unfold b43_4
   repeat (first | refine za7 ?_ | refine za0 rfl ?_)
   refine zax rfl rfl rfl (fun h6 => ?_) fun h6 => ?_
   ·have hlt : j < i := Int.ofNat_lt.1 (of_decide_eq_true h6)
    have w1 : IntKind.wrap .i64 (((j : Nat) : Int) + 1) = ((j + 1 : Nat) : Int) := zap j (by omega)
    have hoj : gI o j = gI g j := by rw [hov j hlt, if_neg (Nat.lt_irrefl j)]
    have hgk := zn9 (gI g j) (kys g j) 0
    have hgk2 := zn9 (gI g j) (kys g (j + 1)) 0
    rw [if_pos (ztq g j), Nat.zero_add] at hgk2
    have hnl : (o.set j (((kys g (j + 1)).idxOf (gI g j) : Nat) : Int)).length = i := by rw [List.length_set]; exact hol
    have hnk : ∀ v, v < j + 1 → gI g v ∈ kys g (j + 1) := fun v hv => by
     by_cases e : v = j
     ·rw [e]; exact ztq g j
     ·exact (zp3 (hkv v (by omega))).1
    have hno : ∀ v, v < i → gI (o.set j (((kys g (j + 1)).idxOf (gI g j) : Nat) : Int)) v = if v < j + 1 then (((kys g (j + 1)).idxOf (gI g v) : Nat) : Int) else gI g v := fun v hv => by
     rw [zdv (by omega)]
     by_cases e : j = v
     ·rw [if_pos e, if_pos (by omega), e]
     ·rw [if_neg e, hov v hv]
      by_cases c : v < j
      ·rw [if_pos c, if_pos (by omega), (zp3 (hkv v c)).2]
      ·rw [if_neg c, if_neg (by omega)]
    repeat (first | refine za7 ?_ | refine za0 rfl ?_ | refine za6 ?_ | refine za4 ?_ | refine zac ?_ | refine zal ?_ | refine zd2 rfl ?_ | refine za5 rfl ?_ | refine zb7 rfl rfl (by omega) (by omega) ?_)
    rw [ez]
    refine zaj (id := 1) (sp := 0) (off := j) rfl k1 (by decide) (zoy (by omega)) ?_
    rw [hoj]
    repeat (first | refine za7 ?_ | refine za0 rfl ?_ | refine za6 ?_ | refine za4 ?_ | refine za5 rfl ?_)
    by_cases c : gI g j ∈ kys g j
    ·rw [if_pos c] at hgk
     have hks : kys g (j + 1) = kys g j := by rw [kys, if_pos c]
     have k3' : Am.look 3 hp = some (1, .map (zd4 (kys g (j + 1)) 0)) := by rw [hks]; exact k3
     refine zh3 rfl rfl k3 hgk ?_
     repeat (first | refine za7 ?_ | refine za0 rfl ?_ | refine za6 ?_ | refine za4 ?_ | refine zal ?_ | refine zd5 rfl ?_ | refine za5 rfl ?_ | refine o_un rfl rfl ?_ | refine zbh rfl rfl ?_)
     refine zaj (id := 0) (sp := 0) (off := 0) rfl k0 (by decide) rfl ?_
     repeat (first | refine za5 rfl ?_)
     refine zh3 rfl rfl k3' hgk2 ?_
     repeat (first | refine zb7 rfl rfl (by omega) (by omega) ?_)
     rw [ez]
     refine zbs (id := 1) (sp := 0) (off := j) rfl rfl rfl k1 (by simp; omega) rfl ?_
     repeat (first | refine za0 rfl ?_ | refine za6 ?_ | refine za4 ?_ | refine zc5 ?_ | refine za5 rfl ?_ | refine zbp (op := .add) rfl rfl rfl ?_)
     rw [w1]
     exact zar (show i - (j + 1) < i - j by omega) (zaa (.cons rfl (.cons rfl (.cons rfl (.cons rfl (.cons rfl .nil)))))) ⟨j + 1, _, _, rfl, hlt, hnl, hno, hnk, by rw [za2, if_neg (by decide)]; exact k0, by rw [za2, if_pos rfl, List.map_set]; rfl, by rw [za2, if_neg (by decide)]; exact k3', rfl⟩
    ·rw [if_neg c] at hgk
     have hks : kys g (j + 1) = kys g j ++ [gI g j] := by rw [kys, if_neg c]
     refine zh3 rfl rfl k3 hgk ?_
     repeat (first | refine za7 ?_ | refine za0 rfl ?_ | refine za6 ?_ | refine za4 ?_ | refine zd2 rfl ?_ | refine za5 rfl ?_ | refine o_un rfl rfl ?_ | refine zbh rfl rfl ?_)
     refine zpd rfl rfl k3 ?_
     refine o_mapset rfl rfl rfl k3 (zv3 _ _ _ _ c) ?_
     rw [zib, show zd4 (kys g j) 0 ++ [(AV.int .i64 (gI g j), AV.int .i64 (((kys g j).length : Nat) : Int))] = zd4 (kys g (j + 1)) 0 from by rw [hks, zjc, Nat.zero_add]]
     have k0' : Am.look 0 (zbc 3 (1, AObj.map (zd4 (kys g (j + 1)) 0)) hp) = some (0, .cells [.ms 1 0 1 0 i (some i)]) := by rw [za2, if_neg (by decide)]; exact k0
     have k1' : Am.look 1 (zbc 3 (1, AObj.map (zd4 (kys g (j + 1)) 0)) hp) = some (0, .cells (o.map (AV.int .i64))) := by rw [za2, if_neg (by decide)]; exact k1
     have k3' : Am.look 3 (zbc 3 (1, AObj.map (zd4 (kys g (j + 1)) 0)) hp) = some (1, .map (zd4 (kys g (j + 1)) 0)) := by rw [za2, if_pos rfl]
     repeat (first | refine za0 rfl ?_ | refine za6 ?_ | refine za4 ?_)
     refine zaj (id := 0) (sp := 0) (off := 0) rfl k0' (by decide) rfl ?_
     repeat (first | refine za5 rfl ?_)
     refine zh3 rfl rfl k3' hgk2 ?_
     repeat (first | refine zb7 rfl rfl (by omega) (by omega) ?_)
     rw [ez]
     refine zbs (id := 1) (sp := 0) (off := j) rfl rfl rfl k1' (by simp; omega) rfl ?_
     repeat (first | refine za0 rfl ?_ | refine za6 ?_ | refine za4 ?_ | refine zc5 ?_ | refine za5 rfl ?_ | refine zbp (op := .add) rfl rfl rfl ?_)
     rw [w1]
     exact zar (show i - (j + 1) < i - j by omega) (zaa (.cons rfl (.cons rfl (.cons rfl (.cons rfl (.cons rfl .nil)))))) ⟨j + 1, _, _, rfl, hlt, hnl, hno, hnk, by rw [za2, if_neg (by decide)]; exact k0', by rw [za2, if_pos rfl, List.map_set]; rfl, by rw [za2, if_neg (by decide)]; exact k3', rfl⟩
   ·have hie : j = i := by
     have h4 : ¬ ((j : Nat) : Int) < ((i : Nat) : Int) := of_decide_eq_false h6
     omega
    subst hie
    have ho : o = cmpL E j := by
     rw [← hce]
     refine List.ext_getElem (by rw [List.length_map, List.length_range]; exact hol) fun v h1 h2 => ?_
     rw [List.getElem_map, List.getElem_range]
     have := hov v (by omega)
     rw [if_pos (by omega)] at this
     rw [zt1 h1, this]
    subst ho
    repeat (first | refine za7 ?_ | refine za6 ?_ | refine za4 ?_ | refine zd5 rfl ?_ | refine zc0 ?_ | refine zag ?_)
    refine zdj ?_
    repeat (first | refine za7 ?_ | refine za0 rfl ?_ | refine za4 ?_ | refine zby ?_)
    refine zaj (id := 0) (sp := 0) (off := 0) rfl k0 (by decide) rfl ?_
    repeat (first | refine za5 rfl ?_)
    refine zpd rfl rfl k3 ?_
    repeat (first | refine za6 ?_ | refine za4 ?_ | refine zb2 ?_ | refine za5 rfl ?_)
    refine zau ⟨.inr rfl, _, rfl, ?_⟩
    refine congrArg AV.tup (zik (zd0 _ hol ?_) (show AV.int .i64 (((zd4 (kys g j) 0).length : Nat) : Int) = _ by rw [zib, hcl]))
    show Am.look 1 (zd8 2 hp) = _
    rw [zb4, if_neg (by decide)]
    exact k1
end Go.Proofs.Ytoagikifehmlpaa
namespace Go.Proofs.Ytoagikifehmlpaa
open Go Go.Am
def cpN (E : List (Nat × Nat)) (m v : Nat) : Nat := (rps E m m).idxOf (zr6 E m v)
def prtL (E : List (Nat × Nat)) (m : Nat) : List (List Nat) := (rps E m m).map fun r => (List.range m).filter fun v => zp9 E m r v
def cLL (ps : List (List Nat)) : AV := .vs (ps.map fun p => [vsI (iL p)])
theorem zs6 (E : List (Nat × Nat)) (m : Nat) : cmpL E m = iL ((List.range m).map (cpN E m)) := by
 unfold cmpL iL cpN
 rw [List.map_map]
 rfl
theorem zgl {E : List (Nat × Nat)} {m v : Nat} (hb : ∀ u v, (u, v) ∈ E → u < m ∧ v < m) (hv : v < m) : cpN E m v < (rps E m m).length := zgn (zh8 hb (Nat.le_refl m) hv)
theorem zut (E : List (Nat × Nat)) (m i : Nat) : (rps E m i).Nodup := List.Pairwise.filter _ List.nodup_range
theorem rps_one {E : List (Nat × Nat)} {m r s : Nat} (hb : ∀ u v, (u, v) ∈ E → u < m ∧ v < m) (hr : r ∈ rps E m m) (hs : s ∈ rps E m m) (mu : Mut E r s) : r = s := by
 have hr2 := (zep hb (Nat.le_refl m)).1 hr
 have hs2 := (zep hb (Nat.le_refl m)).1 hs
 rcases Nat.lt_trichotomy r s with c | c | c
 ·exact absurd mu (hs2.2 r c)
 ·exact c
 ·exact absurd mu.symm (hr2.2 s c)
theorem zse {E : List (Nat × Nat)} {m k v : Nat} (hb : ∀ u v, (u, v) ∈ E → u < m ∧ v < m) (hv : v < m) (hk : k < (rps E m m).length) : (cpN E m v == k) = zp9 E m (rps E m m)[k] v := by
 have hm := List.getElem_mem hk
 have hlt := ((zep hb (Nat.le_refl m)).1 hm).1
 have hro := zh8 hb (Nat.le_refl m) hv
 obtain ⟨h1, _, _⟩ := zkv hb hv
 rw [Bool.eq_iff_iff, beq_iff_eq, zcn hb hlt hv]
 unfold cpN
 constructor
 ·intro e
  have h2 := List.getElem_idxOf (zgn hro)
  have : (rps E m m)[k] = zr6 E m v := by
   rw [← h2]
   congr 1
   exact e.symm
  rw [this]
  exact h1
 ·intro mu
  have : zr6 E m v = (rps E m m)[k] := (rps_one hb hm hro (mu.trans h1.symm)).symm
  rw [this]
  exact (zut E m m).idxOf_getElem k hk
def zh5 (E : List (Nat × Nat)) (m i k : Nat) : List Nat := (List.range i).filter fun v => cpN E m v == k
theorem zuc (E : List (Nat × Nat)) (m i : Nat) : (fun k => iL (zh5 E m (i + 1) k)) = upd (fun k => iL (zh5 E m i k)) (cpN E m i) (iL (zh5 E m i (cpN E m i)) ++ [((i : Nat) : Int)]) := by
 funext k
 unfold zh5 upd
 rw [List.range_succ, List.filter_append, List.filter_cons]
 by_cases e : k = cpN E m i
 ·rw [if_pos e, if_pos (by rw [e]; exact beq_self_eq_true _), e]
  exact zt7 _ _
 ·rw [if_neg e, if_neg (fun h => e (eq_of_beq h).symm), List.filter_nil, List.append_nil]
theorem zph {E : List (Nat × Nat)} {m : Nat} (hb : ∀ u v, (u, v) ∈ E → u < m ∧ v < m) : (List.range (rps E m m).length).map (zh5 E m m) = prtL E m := by
 unfold prtL
 refine List.ext_getElem (by rw [List.length_map, List.length_map, List.length_range]) fun k h1 h2 => ?_
 rw [List.getElem_map, List.getElem_map, List.getElem_range]
 rw [List.length_map] at h2
 unfold zh5
 exact List.filter_congr fun v hv => zse hb (List.mem_range.1 hv) h2
theorem zpi (E : List (Nat × Nat)) (m i k : Nat) : (zh5 E m i k).length ≤ i := Nat.le_trans (List.length_filter_le ..) (by rw [List.length_range]; exact Nat.le_refl _)
theorem znx (E : List (Nat × Nat)) (m i : Nat) : (rps E m i).length ≤ i := Nat.le_trans (List.length_filter_le ..) (by rw [List.length_range]; exact Nat.le_refl _)
end Go.Proofs.Ytoagikifehmlpaa
namespace Go.Proofs.Ytoagikifehmlpaa
open Go Go.Am
def cmsN (m : Nat) (E : List (Nat × Nat)) : AV := .tup [cLL (prtL E m), .int .i64 0]
def cmsV (n : Int) (es : List (Int × Int)) : AV := if zd6 n es = 0 then cmsN n.toNat (es.map fun e => (e.1.toNat, e.2.toNat)) else .tup [.vs [], .int .i64 (zd6 n es)]
theorem zs8 {m : Nat} {E : List (Nat × Nat)} (h : zd6 m (zaf E) = 0) : cmsV m (zaf E) = cmsN m E := by
 unfold cmsV
 rw [if_pos h, zej]
 rfl
theorem cmsV_err {n : Int} {es : List (Int × Int)} (h : zd6 n es ≠ 0) : cmsV n es = .tup [.vs [], .int .i64 (zd6 n es)] := if_neg h
theorem o_japp {w0 : World} {N0 n d d2 : Nat} {k : List Fr} {Q : Exit → AS → Prop} {l : List (Nat × AV)} {ios : List Opr} {m a b j sj nx ck : Nat} {L : Nat → List Int} {nz : Nat → Bool} {cv : Nat → AV} {C : Nat → List Int} {ids sps : Nat → Nat} {hp : List (Nat × Nat × AObj)} {bytes : Nat} {z : List AV} {s x o ia sa : Arg}
  (hJ : Jn m nz cv C ids sps hp nx) (hR : Rw m L nz cv C ids sps) (ha : a < m) (hL : (L a).length ≤ 100000) (hs : zas s l = some (cv a)) (hx : zas x l = some (.ms j sj 1 0 1 (some 1))) (hj : Am.look j hp = some (sj, .cells [.int .i64 (b : Nat)])) (hb : bytes ≤ 16777216)
  (ho : ∀ v, zas o ((d, v) :: l) = some (.ms 0 1 1 0 m (some m))) (hi : ∀ v, zas ia ((d, v) :: l) = some (.int .i64 (a : Nat))) (hsa : ∀ u v, zas sa ((d2, u) :: (d, v) :: l) = some v)
  (go : ∀ u v hp' nx' ck' nz' cv' C' ids' sps', Jn m nz' cv' C' ids' sps' hp' nx' → Rw m (upd L a (L a ++ [((b : Nat) : Int)])) nz' cv' C' ids' sps' → Om Try.prog w0 N0 none (KnP Try.prog w0 N0) ios (st n ((d2, u) :: (d, v) :: l) hp' nx' ck') k Q) :
  Om Try.prog w0 N0 none (KnP Try.prog w0 N0) (⟨some d, .append 1 bytes z s x, none⟩ :: ⟨some d2, .idxs 1 o ia, none⟩ :: ⟨none, .store 1 (.t d2) sa, none⟩ :: ios) (st n l hp nx ck) k Q := by
 have ez : ∀ o : Nat, 0 + ((o : Nat) : Int).toNat * 1 = o := fun o => by simp
 have hel : ∀ l, (st n l hp nx ck []).elems 1 (.ms j sj 1 0 1 (some 1)) = some [[.int .i64 (b : Nat)]] := fun l => zdk (xs := [[.int .i64 (b : Nat)]]) (ys := []) hj rfl fun x hx => by obtain rfl := List.mem_singleton.1 hx; rfl
 have ht : ∀ (p : AV) (l : List (Nat × AV)), zas (.t d2) ((d2, p) :: l) = some p := fun p l => by
  show zbi d2 ((d2, p) :: l) = some p
  rw [zbi, Nat.beq_refl]
 cases hz : nz a with
 | false =>
  obtain ⟨e1, e2⟩ := hR.none a ha hz
  have J1 := hJ.add a ck [((b : Nat) : Int)]
  have J2 := J1.cset a (.ms nx ck 1 0 1 none)
  refine zpb (v := .ms nx ck 1 0 1 none) (hp' := (nx, ck, .cells [.int .i64 (b : Nat)]) :: hp) (nx' := nx + 1) (ck' := ck + 1) (hs.trans (congrArg some e2)) hx (hel []) ?_ ?_ (fun _ _ _ _ _ _ _ => rfl)
  ·unfold zb0
   rw [if_neg (show ¬ [[AV.int .i64 (b : Nat)]].length = 0 from Nat.succ_ne_zero 0), if_pos (show [[AV.int .i64 (b : Nat)]].flatten.all AV.isCell = true ∧ bytes ≤ 16777216 from ⟨rfl, hb⟩)]
   rfl
  refine zb7 (ho _) (hi _) (Int.natCast_nonneg a) (Int.ofNat_lt.2 ha) ?_
  rw [ez]
  refine zbs (id := 0) (sp := 1) (off := a) (ht _ _) (hsa _ _) rfl J1.top (by simp; exact ha) rfl ?_
  refine go _ _ _ _ _ _ _ _ _ _ J2 ⟨fun v hv hz' => ?_, fun v hv hz' => ?_⟩
  ·by_cases e : v = a
   ·subst e
    rw [zae, zae, zae, zae, zae, e1]
    exact ⟨List.cons_ne_nil _ _, rfl, rfl⟩
   ·rw [za8 _ _ e] at hz'
    rw [za8 _ _ e, za8 _ _ e, za8 _ _ e, za8 _ _ e, za8 _ _ e]
    exact hR.some v hv hz'
  ·by_cases e : v = a
   ·subst e
    rw [zae] at hz'
    cases hz'
   ·rw [za8 _ _ e] at hz'
    rw [za8 _ _ e, za8 _ _ e]
    exact hR.none v hv hz'
 | true =>
  obtain ⟨_, e1, e2⟩ := hR.some a ha hz
  have J1 := hJ.block ha hz ck (L a ++ [((b : Nat) : Int)])
  have J2 := J1.cset a (.ms (ids a) ck 1 0 ((L a).length + 1) none)
  have hc := hJ.cell a ha hz
  rw [e1] at hc
  refine zea [[.int .i64 (b : Nat)]] (hs.trans (congrArg some e2)) hx (hel _) (Nat.succ_ne_zero 0) rfl hb hc (by rw [List.length_map, Nat.mul_one]) (by show (L a).length + 1 ≤ 1048576; omega) ?_ (fun _ _ _ _ _ _ _ => rfl)
  have e0 : (L a).map (AV.int .i64) ++ [[AV.int .i64 (b : Nat)]].flatten = (L a ++ [((b : Nat) : Int)]).map (AV.int .i64) := by rw [List.map_append]; rfl
  rw [e0]
  refine zb7 (ho _) (hi _) (Int.natCast_nonneg a) (Int.ofNat_lt.2 ha) ?_
  rw [ez]
  refine zbs (id := 0) (sp := 1) (off := a) (ht _ _) (hsa _ _) rfl J1.top (by simp; exact ha) rfl ?_
  refine go _ _ _ _ _ _ _ _ _ _ J2 ⟨fun v hv hz' => ?_, fun v hv hz' => ?_⟩
  ·by_cases e : v = a
   ·subst e
    rw [zae, zae, zae, zae, List.length_append]
    exact ⟨by simp, rfl, rfl⟩
   ·rw [za8 _ _ e, za8 _ _ e, za8 _ _ e, za8 _ _ e]
    exact hR.some v hv hz'
  ·by_cases e : v = a
   ·subst e
    rw [hz] at hz'
    cases hz'
   ·rw [za8 _ _ e, za8 _ _ e]
    exact hR.none v hv hz'
def b13_0 : IC := .seq (.region [⟨(some 25), .bin .lss (.t 24) (.t 23), none⟩] none)
 (.seq (.cond (.t 25) (.skip)
 (.exit 0))
 (.seq (.block 1 (.seq (.region [⟨(some 26), .mov (.t 24), none⟩,
  ⟨(some 27), .idxs 1 (.t 22) (.t 24), none⟩,
  ⟨(some 28), .load none (.t 27), none⟩,
  ⟨(some 8), .mov (.t 26), none⟩,
  ⟨(some 9), .mov (.t 28), none⟩] none)
 (.region [⟨(some 29), .mov (.t 7), none⟩,
  ⟨(some 30), .mov (.t 9), none⟩,
  ⟨(some 31), .mov (.t 7), none⟩,
  ⟨(some 32), .mov (.t 9), none⟩,
  ⟨(some 33), .idxs 1 (.t 31) (.t 32), none⟩,
  ⟨(some 34), .load none (.t 33), none⟩,
  ⟨(some 35), .mov (.t 8), none⟩,
  ⟨(some 36), .bslice 1 1 [.int .i64 0] [(0, 1, (.t 35))], none⟩,
  ⟨(some 37), .append 1 8 [.int .i64 0] (.t 34) (.t 36), none⟩,
  ⟨(some 38), .idxs 1 (.t 29) (.t 30), none⟩,
  ⟨none, .store 1 (.t 38) (.t 37), none⟩] none)))
 (.region [⟨(some 39), .bin .add (.t 24) (.c (.int .i64 1)), none⟩,
  ⟨(some 24), .mov (.t 39), none⟩] none)))
-- pneumatic/digraph.Components
def ic13 : IC := .seq (.region [⟨(some 1), .box (.t 0), none⟩,
  ⟨(some 2), .mov (.c (.nils)), none⟩,
  ⟨(some 3), .mov (.c (.int .i64 0)), none⟩] none)
 (.seq (.seq (.region [⟨(some 10), .load (some 2) (.t 1), none⟩,
  ⟨(some 11), .call (.c (.fn 34 [] [])) [(.t 10)], none⟩,
  ⟨(some 4), .mov (.t 11), none⟩] none)
 (.seq (.region [⟨(some 12), .mov (.t 4), none⟩,
  ⟨(some 13), .bin .neq (.t 12) (.c (.int .i64 0)), none⟩] none)
 (.cond (.t 13) (.seq (.region [⟨(some 14), .mov (.t 4), none⟩,
  ⟨(some 2), .mov (.c (.nils)), none⟩,
  ⟨(some 3), .mov (.t 14), none⟩] none)
 (.ret))
 (.skip))))
 (.seq (.region [⟨(some 16), .load (some 2) (.t 1), none⟩,
  ⟨(some 17), .call (.c (.fn 43 [] [])) [(.t 16)], none⟩,
  ⟨(some 15), .mov (.t 17), none⟩,
  ⟨(some 18), .extract (.t 15) 0, none⟩,
  ⟨(some 19), .extract (.t 15) 1, none⟩,
  ⟨(some 5), .mov (.t 18), none⟩,
  ⟨(some 6), .mov (.t 19), none⟩] none)
 (.seq (.region [⟨(some 20), .mov (.t 6), none⟩,
  ⟨(some 21), .mkslice 1 24 [.nils] (.t 20) (.t 20), none⟩,
  ⟨(some 7), .mov (.t 21), none⟩] none)
 (.seq (.seq (.region [⟨(some 22), .mov (.t 5), none⟩,
  ⟨(some 23), .len false (.t 22), none⟩,
  ⟨(some 24), .mov (.c (.int .i64 0)), none⟩] none)
 (.block 0 (.loop b13_0)))
 (.seq (.region [⟨(some 40), .mov (.t 7), none⟩,
  ⟨(some 2), .mov (.t 40), none⟩,
  ⟨(some 3), .mov (.c (.int .i64 0)), none⟩] none)
 (.ret))))))
theorem fn13 : env0.fn 13 = some ⟨41, ic13, [.t 2, .t 3]⟩ := by kernel_rfl
set_option maxHeartbeats 8000000 in
theorem zln (n : Int) (es : List (Int × Int)) (hn : zd6 n es = 0 → n ≤ 12) : PF Try.prog 13 [cG n es] (cmsV n es) := by
 have ez : ∀ o : Nat, 0 + ((o : Nat) : Int).toNat * 1 = o := fun o => by simp
 have p34 := zn0 n es
 refine zbg env0_ok fn13 [(0, .agg [.int .i64 n, .vs (cE es)])] (by show 1 ≤ 41; decide) rfl fun w0 N0 => ?_
 unfold ic13
 refine za7 (za0 rfl (zel rfl rfl (za5 rfl (za5 rfl (za6 (za4 ?_))))))
 refine zb6 [] [(0, 0, [.int .i64 n, .vs (cE es)])] [(1, .vptr [.int .i64 n, .vs (cE es)])] rfl (.cons rfl rfl .nil) .nil (.cons rfl (.fptr rfl rfl) .nil) ?_
 repeat (first | refine za7 ?_ | refine za0 rfl ?_ | refine zb1 rfl rfl rfl rfl ?_)
 refine zb3 rfl rfl p34 (fun h => Bool.noConfusion (show false = true from h)) ?_
 repeat (first | refine za7 ?_ | refine za0 rfl ?_ | refine za6 ?_ | refine za4 ?_ | refine za5 rfl ?_)
 refine zax rfl rfl rfl (fun h => ?_) fun h => ?_
 ·have h : ¬ zd6 n es = 0 := by simpa using h
  rw [cmsV_err h]
  repeat (first | refine za7 ?_ | refine za0 rfl ?_ | refine za6 ?_ | refine za4 ?_ | refine zd2 rfl ?_ | refine zb2 ?_ | refine zan ?_ | refine za5 rfl ?_)
  exact zau ⟨.inr rfl, _, rfl, rfl⟩
 have h : zd6 n es = 0 := by simpa using h
 have hn := hn h
 obtain ⟨m, E, rfl, rfl, hm, _, hE, hb⟩ := zj4 h
 rw [zs8 h]
 have p43 := zgk m (by omega) E hE hb
 unfold cmpV at p43
 rw [zs6] at p43
 have hrl := znx E m m
 have hcp := fun v (hv : v < m) => zgl hb hv
 have hps := zuc E m
 have hpe := zph hb
 have hpl := zpi E m
 unfold cmsN
 rw [← hpe]
 have hcl : ((List.range m).map (cpN E m)).length = m := by rw [List.length_map, List.length_range]
 have hvl : ((iL ((List.range m).map (cpN E m))).map fun z => ([.int .i64 z] : List AV)).length = m := by rw [List.length_map, zgm, hcl]
 have hcg : ∀ v, v < m → gN ((List.range m).map (cpN E m)) v = cpN E m v := fun v hv => by
  rw [← zn5 (by rw [hcl]; exact hv), List.getElem_map, List.getElem_range]
 have hL0 : (fun k => iL (zh5 E m 0 k)) = fun _ => [] := rfl
 generalize (rps E m m).length = nn at *
 repeat (first | refine za7 ?_ | refine za0 rfl ?_ | refine za6 ?_ | refine za4 ?_ | refine zal ?_ | refine zd5 rfl ?_ | refine zb1 rfl rfl rfl rfl ?_)
 refine zb3 rfl rfl p43 (fun h => Bool.noConfusion (show false = true from h)) ?_
 repeat (first | refine za7 ?_ | refine za0 rfl ?_ | refine za6 ?_ | refine za4 ?_ | refine za5 rfl ?_ | refine zbh rfl rfl ?_)
 refine o_mks rfl rfl ⟨Int.natCast_nonneg nn, Int.le_refl _, by omega, by decide⟩ ?_
 repeat (first | refine za7 ?_ | refine za0 rfl ?_ | refine za6 ?_ | refine za4 ?_ | refine zac ?_ | refine za5 rfl ?_ | refine zc4 rfl rfl ?_)
 have J0 : Jn nn (fun _ => false) (fun _ => .nils) (fun _ => []) (fun _ => 0) (fun _ => 0) [(0, 1, AObj.cells (zeg ((nn : Nat) : Int).toNat [.nils]))] 1 := by
  refine ⟨?_, fun _ _ h => (by cases h), fun _ _ h => (by cases h), fun _ _ _ _ h => (by cases h), Nat.zero_lt_one⟩
  rw [← zjm]
  rfl
 refine zc1 (fun mm S => ∃ i hp nx ck nz cv C ids sps, mm = m - i ∧ i ≤ m ∧ Jn nn nz cv C ids sps hp nx ∧ Rw nn (fun k => iL (zh5 E m i k)) nz cv C ids sps ∧ S = st 41 [(7, .ms 0 1 1 0 nn (some nn)), (22, vsI (iL ((List.range m).map (cpN E m)))), (23, .int .i64 (m : Nat)), (24, .int .i64 (i : Nat))] hp nx ck) m
  (zaa (.cons rfl (.cons rfl (.cons (by exact congrArg (fun z : Nat => some (AV.int .i64 (z : Nat))) hvl) (.cons rfl .nil))))) ⟨0, _, _, _, _, _, _, _, _, rfl, Nat.zero_le _, J0, ⟨fun _ _ h => (by cases h), fun _ _ _ => ⟨rfl, rfl⟩⟩, rfl⟩ ?_
 rintro mm S ⟨i, hp, nx, ck, nz, cv, C, ids, sps, rfl, hi, hJ, hR, rfl⟩
 unfold b13_0
 repeat (first | refine za7 ?_ | refine za0 rfl ?_)
 refine zax rfl rfl rfl (fun h3 => ?_) fun h3 => ?_
 ·have hlt : i < m := Int.ofNat_lt.1 (of_decide_eq_true h3)
  have w1 : IntKind.wrap .i64 (((i : Nat) : Int) + 1) = ((i + 1 : Nat) : Int) := zap i (by omega)
  have hgk := zlz (l := (List.range m).map (cpN E m)) (i := i) (by omega)
  rw [hcg i hlt] at hgk
  have hai := hcp i hlt
  have hps := hps i
  have hpl := hpl i (cpN E m i)
  generalize cpN E m i = a at *
  repeat (first | refine za7 ?_ | refine za0 rfl ?_ | refine za6 ?_ | refine za4 ?_ | refine zac ?_ | refine zal ?_ | refine zd2 rfl ?_ | refine za5 rfl ?_ | refine zad rfl rfl ?_ | refine zay rfl rfl (by omega) (by assumption) rfl ?_ | refine zb7 rfl rfl (by omega) (by omega) ?_)
  rw [ez]
  refine zaj (id := 0) (sp := 1) (off := a) rfl hJ.top hJ.nx0 (hJ.get hai) ?_
  repeat (first | refine za5 rfl ?_ | refine zbr rfl rfl ?_)
  refine o_japp (a := a) (b := i) (hJ.fresh ck (.cells [.int .i64 (i : Nat)])) hR hai (by rw [zgm]; omega) rfl rfl zaz (by decide) (fun _ => rfl) (fun _ => rfl) (fun _ _ => rfl) fun u v hp' nx' ck' nz' cv' C' ids' sps' hJ' hR' => ?_
  repeat (first | refine za0 rfl ?_ | refine za6 ?_ | refine za4 ?_ | refine zc5 ?_ | refine za5 rfl ?_ | refine zbp (op := .add) rfl rfl rfl ?_)
  rw [w1]
  exact zar (show m - (i + 1) < m - i by omega) (zaa (.cons rfl (.cons rfl (.cons rfl (.cons rfl .nil))))) ⟨i + 1, _, _, _, _, _, _, _, _, rfl, hlt, hJ', by rw [hps]; exact hR', rfl⟩
 ·have hie : i = m := by
   have h4 : ¬ ((i : Nat) : Int) < ((m : Nat) : Int) := of_decide_eq_false h3
   omega
  subst hie
  repeat (first | refine za7 ?_ | refine za6 ?_ | refine za4 ?_ | refine zd5 rfl ?_ | refine zc0 ?_ | refine zag ?_)
  refine zdj ?_
  repeat (first | refine za7 ?_ | refine za4 ?_ | refine zby ?_)
  refine zb6 [(some (0, 1), (List.range nn).map fun k => vsI (iL (zh5 E i i k)))] (fzJ nn nz C ids sps) [(7, .ms 0 0 1 0 nn (some nn))] (hJ.ok _) hJ.rnF (.cons hJ.top (zus fun v hv => ?_) .nil) (.cons rfl (.ms rfl) .nil) ?_
  ·have hv := List.mem_range.1 hv
   cases hz : nz v with
   | true =>
    obtain ⟨e0, e1, e2⟩ := hR.some v hv hz
    rw [e2]
    have hfz := hJ.fzl hv hz
    rw [e1] at hfz
    refine .fms hfz (by rw [List.length_map]) (fun x hx => by obtain ⟨s, _, rfl⟩ := List.mem_map.1 hx; rfl) ⟨[], ?_⟩
    rw [List.drop_zero, List.append_nil, zfs]
   | false =>
    obtain ⟨e0, e2⟩ := hR.none v hv hz
    rw [e2, e0]
    exact .nilvs
  refine zb6 [] [(0, 0, (List.range nn).map fun k => vsI (iL (zh5 E i i k)))] [(7, cLL ((List.range nn).map (zh5 E i i)))] rfl (.cons rfl ?_ .nil) .nil (.cons rfl ?_ .nil) ?_
  ·exact zi5 (fun v => rfl) _
  ·have := RenW.fms1 (live := []) (fz := [(0, 0, (List.range nn).map fun k => vsI (iL (zh5 E i i k)))]) (id := 0) (sp := 0) (len := nn) (cap := some nn) (vs := (List.range nn).map fun k => vsI (iL (zh5 E i i k))) rfl (by rw [List.length_map, List.length_range])
   rw [List.map_map] at this
   unfold cLL
   rw [List.map_map]
   exact this
  refine za0 rfl ?_
  repeat (first | refine za6 ?_ | refine za4 ?_ | refine zb2 ?_ | refine za5 rfl ?_)
  exact zau ⟨.inr rfl, _, rfl, rfl⟩
end Go.Proofs.Ytoagikifehmlpaa
namespace Go.Proofs.Ytoagikifehmlpaa
open Go Go.Am
def bgF (E : List (Nat × Nat)) (m : Nat) (e : Nat × Nat) : List (Nat × Nat) := if cpN E m e.1 = cpN E m e.2 then [] else [(cpN E m e.1, cpN E m e.2)]
def zj1 (E : List (Nat × Nat)) (m : Nat) (l : List (Nat × Nat)) : List (Nat × Nat) := l.flatMap (bgF E m)
theorem zrt (E : List (Nat × Nat)) (m : Nat) (l : List (Nat × Nat)) (e : Nat × Nat) : zj1 E m (l ++ [e]) = zj1 E m l ++ bgF E m e := by
 unfold zj1
 rw [List.flatMap_append, List.flatMap_cons, List.flatMap_nil, List.append_nil]
theorem zjv (E : List (Nat × Nat)) (m : Nat) : ∀ l, (zj1 E m l).length ≤ l.length
 | [] => Nat.le_refl _
 | e :: l => by
  have := zjv E m l
  have h1 : (bgF E m e).length ≤ 1 := by unfold bgF; split <;> simp
  unfold zj1 at this ⊢
  rw [List.flatMap_cons, List.length_append, List.length_cons]
  omega
theorem zgu {E : List (Nat × Nat)} {m a b : Nat} {l : List (Nat × Nat)} : (a, b) ∈ zj1 E m l ↔ a ≠ b ∧ ∃ e ∈ l, cpN E m e.1 = a ∧ cpN E m e.2 = b := by
 unfold zj1
 rw [List.mem_flatMap]
 constructor
 ·rintro ⟨e, he, h⟩
  unfold bgF at h
  split at h
  ·exact absurd h List.not_mem_nil
  ·rename_i hne
   have h := List.mem_singleton.1 h
   injection h with h1 h2
   subst h1 h2
   exact ⟨hne, e, he, rfl, rfl⟩
 ·rintro ⟨hne, e, he, rfl, rfl⟩
  refine ⟨e, he, ?_⟩
  unfold bgF
  rw [if_neg hne]
  exact List.mem_singleton.2 rfl
theorem zmw {E : List (Nat × Nat)} {m : Nat} (hb : ∀ u v, (u, v) ∈ E → u < m ∧ v < m) : ∀ u v, (u, v) ∈ zj1 E m E → u < (rps E m m).length ∧ v < (rps E m m).length := fun u v h => by
 obtain ⟨_, e, he, rfl, rfl⟩ := zgu.1 h
 have := hb e.1 e.2 he
 exact ⟨zgl hb this.1, zgl hb this.2⟩
def zqf (B : List (Nat × Nat)) (n i : Nat) : List (Nat × Nat) := (List.range i).flatMap fun v => (nbr B n v).map fun w => (v, w)
theorem zlo (B : List (Nat × Nat)) (n i : Nat) : zqf B n (i + 1) = zqf B n i ++ (nbr B n i).map fun w => (i, w) := by
 unfold zqf
 rw [List.range_succ, List.flatMap_append, List.flatMap_cons, List.flatMap_nil, List.append_nil]
theorem zk1 (B : List (Nat × Nat)) (n : Nat) : ∀ i, (zqf B n i).length ≤ i * n
 | 0 => Nat.zero_le _
 | i + 1 => by
  have := zk1 B n i
  have := zih B n i
  rw [zlo, List.length_append, List.length_map, Nat.succ_mul]
  omega
theorem zli (a b : List (Nat × Nat)) : zaf (a ++ b) = zaf a ++ zaf b := List.map_append ..
theorem zhk (a : List (Nat × Nat)) : (zaf a).length = a.length := List.length_map ..
end Go.Proofs.Ytoagikifehmlpaa
namespace Go.Proofs.Ytoagikifehmlpaa
open Go Go.Am
def cndN (m : Nat) (E : List (Nat × Nat)) : AV := .tup [cG ((rps E m m).length : Nat) (zaf (zqf (zj1 E m E) (rps E m m).length (rps E m m).length)), vsI (iL ((List.range m).map (cpN E m))), .int .i64 0]
def cndV (n : Int) (es : List (Int × Int)) : AV := if zd6 n es = 0 then cndN n.toNat (es.map fun e => (e.1.toNat, e.2.toNat)) else .tup [cG 0 [], .vs [], .int .i64 (zd6 n es)]
theorem zs9 {m : Nat} {E : List (Nat × Nat)} (h : zd6 m (zaf E) = 0) : cndV m (zaf E) = cndN m E := by
 unfold cndV
 rw [if_pos h, zej]
 rfl
theorem cndV_err {n : Int} {es : List (Int × Int)} (h : zd6 n es ≠ 0) : cndV n es = .tup [cG 0 [], .vs [], .int .i64 (zd6 n es)] := if_neg h
theorem trip_eq {α : Type} {a a' b b' c c' : α} (h1 : a = a') (h2 : b = b') (h3 : c = c') : [a, b, c] = [a', b', c'] := by rw [h1, h2, h3]
theorem zuq {S : AS} {a b c : Nat} {pa x y v u : AV} (h1 : S.get a = some pa) (d1 : S.deref pa = some [x, y]) (h2 : S.get b = some v) (h3 : S.get c = some u) : S.res [.cell a (some 2), .t b, .t c] = some (.tup [.agg [x, y], v, u]) := by
 simp [AS.res, AS.resL, ztt, h1, d1, h2, h3]
theorem zu0 {x : Nat} {l : List Nat} (h : x ∉ l) : zko x l = false := by
 cases hb : zko x l with
 | false => rfl
 | true => exact absurd (zey.1 hb) h
theorem noM_cE : ∀ q : List (Int × Int), hasM.hasML (cE q).flatten = false
 | [] => rfl
 | e :: q => by
  show (hasM (AV.int .i64 e.1) || (hasM (AV.int .i64 e.2) || hasM.hasML (cE q).flatten)) = false
  rw [noM_cE q]
  rfl
theorem z_big {P : Program} {w0 : World} {N0 n nx ck : Nat} {k : List Fr} {Q : Exit → AS → Prop} {ic : IC} {l : List (Nat × AV)} {hp : List (Nat × Nat × AObj)} {g b v : AV} {z : Int} {q : List (Int × Int)} (hF : Rq z q v v hp nx) (h2 : zbi 2 l = some (.mptr 0 0 0)) (h6 : zbi 6 l = some g) (mg : hasM g = false) (h7 : zbi 7 l = some b) (mb : hasM b = false) (h8 : zbi 8 l = some (.mptr 1 1 0))
  (go : Zm P w0 N0 none ic (st n [(2, .mptr 0 0 0), (6, g), (7, b), (8, .vptr [.int .i64 z, .vs (cE q)])] [(0, 0, .cells [.int .i64 0, .nils])] 1 1) k Q) : Zm P w0 N0 none ic (st n l hp nx ck) k Q := by
 have go2 : Zm P w0 N0 none ic (st n [(2, .mptr 0 0 0), (6, g), (7, b), (8, .mptr 1 0 0)] [(0, 0, .cells [.int .i64 0, .nils]), (1, 0, .cells [.int .i64 z, .vs (cE q)])] 2 1) k Q :=
  zb6 [(some (0, 0), [.int .i64 0, .nils])] [(1, 0, [.int .i64 z, .vs (cE q)])] [(2, .mptr 0 0 0), (6, g), (7, b), (8, .vptr [.int .i64 z, .vs (cE q)])] rfl (.cons rfl rfl .nil) (.cons rfl (.cons (.same rfl) (.cons (.same rfl) .nil)) .nil) (.cons rfl (.mptr rfl) (.cons rfl (.same mg) (.cons rfl (.same mb) (.cons rfl (.fptr rfl rfl) .nil)))) go
 rcases hF.lst with ⟨rfl, rfl⟩ | ⟨id, sp, rfl, hl, h3, _⟩
 ·exact zb6 [(some (0, 0), [.int .i64 0, .nils]), (some (1, 1), [.int .i64 z, .vs []])] [] [(2, .mptr 0 0 0), (6, g), (7, b), (8, .mptr 1 0 0)] rfl .nil (.cons hF.res (.cons (.same rfl) (.cons (.same rfl) .nil)) (.cons hF.out (.cons (.same rfl) (.cons .nilvs .nil)) .nil)) (.cons h2 (.mptr rfl) (.cons h6 (.same mg) (.cons h7 (.same mb) (.cons h8 (.mptr rfl) .nil)))) go2
 ·have hok : okW [id] [(some (0, 0), [.int .i64 0, .nils]), (some (1, 1), [.int .i64 z, .vs (cE q)])] = true := by
   show (!zko 0 [id] && (!zko 1 [0, id] && true)) = true
   rw [zu0 (by simp; omega), zu0 (by simp; omega)]
   rfl
  have hfz : fzl id sp [(id, sp, (cE q).flatten)] = some (cE q).flatten := by
   unfold fzl
   simp
  refine zb6 [(some (0, 0), [.int .i64 0, .nils]), (some (1, 1), [.int .i64 z, .vs (cE q)])] [(id, sp, (cE q).flatten)] [(2, .mptr 0 0 0), (6, g), (7, b), (8, .mptr 1 0 0)] hok (.cons hl ?_ .nil) (.cons hF.res (.cons (.same rfl) (.cons (.same rfl) .nil)) (.cons hF.out (.cons (.same rfl) (.cons (.fms hfz (zcg q) (fun x hx => by obtain ⟨s, _, rfl⟩ := List.mem_map.1 hx; rfl) ⟨[], by rw [List.drop_zero, List.append_nil]⟩) .nil)) .nil)) (.cons h2 (.mptr rfl) (.cons h6 (.same mg) (.cons h7 (.same mb) (.cons h8 (.mptr rfl) .nil)))) go2
  exact noM_cE q
def b15_0 : IC := .seq (.region [⟨(some 35), .bin .lss (.t 34) (.t 33), none⟩] none)
 (.seq (.cond (.t 35) (.skip)
 (.exit 0))
 (.seq (.block 1 (.seq (.region [⟨(some 36), .idxs 2 (.t 32) (.t 34), none⟩,
  ⟨(some 37), .load (some 2) (.t 36), none⟩,
  ⟨(some 10), .alloc [.int .i64 0, .int .i64 0], none⟩,
  ⟨none, .store 2 (.t 10) (.t 37), none⟩] none)
 (.seq (.region [⟨(some 38), .mov (.t 6), none⟩,
  ⟨(some 39), .faddr 0 (.t 10), none⟩,
  ⟨(some 40), .load none (.t 39), none⟩,
  ⟨(some 41), .idxs 1 (.t 38) (.t 40), none⟩,
  ⟨(some 42), .load none (.t 41), none⟩,
  ⟨(some 43), .mov (.t 6), none⟩,
  ⟨(some 44), .faddr 1 (.t 10), none⟩,
  ⟨(some 45), .load none (.t 44), none⟩,
  ⟨(some 46), .idxs 1 (.t 43) (.t 45), none⟩,
  ⟨(some 47), .load none (.t 46), none⟩,
  ⟨(some 11), .mov (.t 42), none⟩,
  ⟨(some 12), .mov (.t 47), none⟩] (some [[], [], [1], [0, 2], [3], [], [], [6], [5, 7], [8], [4, 0, 1, 2, 3, 4], [9, 10, 0, 1, 2, 3, 4, 5, 6, 7, 8, 9, 10]]))
 (.seq (.region [⟨(some 48), .mov (.t 11), none⟩,
  ⟨(some 49), .mov (.t 12), none⟩,
  ⟨(some 50), .bin .neq (.t 48) (.t 49), none⟩] none)
 (.cond (.t 50) (.region [⟨(some 51), .faddr 1 (.t 8), none⟩,
  ⟨(some 52), .load none (.t 51), none⟩,
  ⟨(some 53), .mov (.t 11), none⟩,
  ⟨(some 54), .mov (.t 12), none⟩,
  ⟨(some 55), .build [.int .i64 0, .int .i64 0] [(0, 1, (.t 53)), (1, 1, (.t 54))], none⟩,
  ⟨(some 56), .bslice 2 1 [.int .i64 0, .int .i64 0] [(0, 2, (.t 55))], none⟩,
  ⟨(some 57), .append 2 16 [.int .i64 0, .int .i64 0] (.t 52) (.t 56), none⟩,
  ⟨(some 58), .faddr 1 (.t 8), none⟩,
  ⟨none, .store 1 (.t 58) (.t 57), none⟩] none)
 (.skip))))))
 (.region [⟨(some 59), .bin .add (.t 34) (.c (.int .i64 1)), none⟩,
  ⟨(some 34), .mov (.t 59), none⟩] none)))
def b15_4 : IC := .seq (.region [⟨(some 73), .bin .lss (.t 72) (.t 71), none⟩] none)
 (.seq (.cond (.t 73) (.skip)
 (.exit 4))
 (.seq (.block 5 (.seq (.region [⟨(some 74), .idxs 1 (.t 70) (.t 72), none⟩,
  ⟨(some 75), .load none (.t 74), none⟩,
  ⟨(some 17), .mov (.t 75), none⟩] none)
 (.region [⟨(some 76), .faddr 1 (.t 13), none⟩,
  ⟨(some 77), .load none (.t 76), none⟩,
  ⟨(some 78), .mov (.t 14), none⟩,
  ⟨(some 79), .mov (.t 17), none⟩,
  ⟨(some 80), .build [.int .i64 0, .int .i64 0] [(0, 1, (.t 78)), (1, 1, (.t 79))], none⟩,
  ⟨(some 81), .bslice 2 1 [.int .i64 0, .int .i64 0] [(0, 2, (.t 80))], none⟩,
  ⟨(some 82), .append 2 16 [.int .i64 0, .int .i64 0] (.t 77) (.t 81), none⟩,
  ⟨(some 83), .faddr 1 (.t 13), none⟩,
  ⟨none, .store 1 (.t 83) (.t 82), none⟩] none)))
 (.region [⟨(some 84), .bin .add (.t 72) (.c (.int .i64 1)), none⟩,
  ⟨(some 72), .mov (.t 84), none⟩] none)))
def b15_2 : IC := .seq (.region [⟨(some 66), .bin .lss (.t 65) (.t 64), none⟩] none)
 (.seq (.cond (.t 66) (.skip)
 (.exit 2))
 (.seq (.block 3 (.seq (.region [⟨(some 67), .mov (.t 65), none⟩,
  ⟨(some 68), .idxs 1 (.t 63) (.t 65), none⟩,
  ⟨(some 69), .load none (.t 68), none⟩,
  ⟨(some 14), .mov (.t 67), none⟩,
  ⟨(some 15), .mov (.t 69), none⟩] none)
 (.seq (.region [⟨(some 70), .mov (.t 15), none⟩,
  ⟨(some 71), .len false (.t 70), none⟩,
  ⟨(some 72), .mov (.c (.int .i64 0)), none⟩] none)
 (.block 4 (.loop b15_4)))))
 (.region [⟨(some 85), .bin .add (.t 65) (.c (.int .i64 1)), none⟩,
  ⟨(some 65), .mov (.t 85), none⟩] none)))
-- pneumatic/digraph.Condense
def ic15 : IC := .seq (.region [⟨(some 1), .box (.t 0), none⟩,
  ⟨(some 2), .alloc [.int .i64 0, .nils], none⟩,
  ⟨(some 3), .mov (.c (.nils)), none⟩,
  ⟨(some 4), .mov (.c (.int .i64 0)), none⟩] none)
 (.seq (.seq (.region [⟨(some 18), .load (some 2) (.t 1), none⟩,
  ⟨(some 19), .call (.c (.fn 34 [] [])) [(.t 18)], none⟩,
  ⟨(some 5), .mov (.t 19), none⟩] none)
 (.seq (.region [⟨(some 20), .mov (.t 5), none⟩,
  ⟨(some 21), .bin .neq (.t 20) (.c (.int .i64 0)), none⟩] none)
 (.cond (.t 21) (.seq (.region [⟨(some 22), .build [.int .i64 0, .nils] [], none⟩,
  ⟨(some 23), .mov (.t 5), none⟩,
  ⟨none, .store 2 (.t 2) (.t 22), none⟩,
  ⟨(some 3), .mov (.c (.nils)), none⟩,
  ⟨(some 4), .mov (.t 23), none⟩] none)
 (.ret))
 (.skip))))
 (.seq (.region [⟨(some 25), .load (some 2) (.t 1), none⟩,
  ⟨(some 26), .call (.c (.fn 43 [] [])) [(.t 25)], none⟩,
  ⟨(some 24), .mov (.t 26), none⟩,
  ⟨(some 27), .extract (.t 24) 0, none⟩,
  ⟨(some 28), .extract (.t 24) 1, none⟩,
  ⟨(some 6), .mov (.t 27), none⟩,
  ⟨(some 7), .mov (.t 28), none⟩] none)
 (.seq (.region [⟨(some 29), .mov (.t 7), none⟩,
  ⟨(some 30), .build [.int .i64 0, .nils] [(0, 1, (.t 29))], none⟩,
  ⟨(some 8), .alloc [.int .i64 0, .nils], none⟩,
  ⟨none, .store 2 (.t 8) (.t 30), none⟩] none)
 (.seq (.seq (.region [⟨(some 31), .faddr 1 (.t 1), none⟩,
  ⟨(some 32), .load none (.t 31), none⟩,
  ⟨(some 33), .len false (.t 32), none⟩,
  ⟨(some 34), .mov (.c (.int .i64 0)), none⟩] none)
 (.block 0 (.loop b15_0)))
 (.seq (.region [⟨(some 60), .mov (.t 7), none⟩,
  ⟨(some 61), .build [.int .i64 0, .nils] [(0, 1, (.t 60))], none⟩,
  ⟨(some 13), .alloc [.int .i64 0, .nils], none⟩,
  ⟨none, .store 2 (.t 13) (.t 61), none⟩] none)
 (.seq (.seq (.region [⟨(some 62), .load (some 2) (.t 8), none⟩,
  ⟨(some 63), .call (.c (.fn 45 [] [])) [(.t 62)], none⟩,
  ⟨(some 64), .len false (.t 63), none⟩,
  ⟨(some 65), .mov (.c (.int .i64 0)), none⟩] none)
 (.block 2 (.loop b15_2)))
 (.seq (.region [⟨(some 86), .load (some 2) (.t 13), none⟩,
  ⟨(some 87), .mov (.t 6), none⟩,
  ⟨none, .store 2 (.t 2) (.t 86), none⟩,
  ⟨(some 3), .mov (.t 87), none⟩,
  ⟨(some 4), .mov (.c (.int .i64 0)), none⟩] none)
 (.ret))))))))
theorem fn15 : env0.fn 15 = some ⟨88, ic15, [.cell 2 (some 2), .t 3, .t 4]⟩ := by kernel_rfl
set_option maxHeartbeats 8000000 in
theorem zqg (n : Int) (es : List (Int × Int)) (hn : zd6 n es = 0 → n ≤ 12) : PF Try.prog 15 [cG n es] (cndV n es) := by
 have p34 := zn0 n es
 refine zbg env0_ok fn15 [(0, .agg [.int .i64 n, .vs (cE es)])] (by show 1 ≤ 88; decide) rfl fun w0 N0 => ?_
 unfold ic15
 refine za7 (za0 rfl (zel rfl rfl (zcd (za5 rfl (za5 rfl (za6 (za4 ?_)))))))
 refine zb6 [(some (1, 1), [.int .i64 0, .nils])] [(0, 0, [.int .i64 n, .vs (cE es)])] [(1, .vptr [.int .i64 n, .vs (cE es)]), (2, .mptr 0 0 0)] rfl (.cons rfl rfl .nil) (.cons rfl (.cons (.same rfl) (.cons (.same rfl) .nil)) .nil) (.cons rfl (.fptr rfl rfl) (.cons rfl (.mptr rfl) .nil)) ?_
 repeat (first | refine za7 ?_ | refine za0 rfl ?_ | refine zb1 rfl rfl rfl rfl ?_)
 refine zb3 rfl rfl p34 (fun h => Bool.noConfusion (show false = true from h)) ?_
 repeat (first | refine za7 ?_ | refine za0 rfl ?_ | refine za6 ?_ | refine za4 ?_ | refine za5 rfl ?_)
 refine zax rfl rfl rfl (fun h => ?_) fun h => ?_
 ·have h : ¬ zd6 n es = 0 := by simpa using h
  rw [cndV_err h]
  repeat (first | refine za7 ?_ | refine za0 rfl ?_ | refine za6 ?_ | refine za4 ?_ | refine zd2 rfl ?_ | refine zb2 ?_ | refine zan ?_ | refine za5 rfl ?_ | refine zbx rfl rfl rfl rfl rfl rfl rfl ?_ | refine zfc rfl rfl ?_)
  exact zau ⟨.inr rfl, _, rfl, rfl⟩
 have h : zd6 n es = 0 := by simpa using h
 have hn := hn h
 obtain ⟨m, E, rfl, rfl, hm, _, hE, hb⟩ := zj4 h
 rw [zs9 h]
 have p43 := zgk m (by omega) E hE hb
 unfold cmpV at p43
 rw [zs6] at p43
 have hrl := znx E m m
 have hcp := fun v (hv : v < m) => zgl hb hv
 have hbl := zmw hb
 unfold cndN
 have hcl : ((List.range m).map (cpN E m)).length = m := by rw [List.length_map, List.length_range]
 have hcg : ∀ v, v < m → ((iL ((List.range m).map (cpN E m))).map fun z => ([.int .i64 z] : List AV))[((v : Nat) : Int).toNat]? = some [.int .i64 (cpN E m v : Nat)] := fun v hv => by
  rw [zlz (by rw [hcl]; exact hv), ← zn5 (by rw [hcl]; exact hv), List.getElem_map, List.getElem_range]
 have hcE : (cE (zaf E)).length = E.length := by rw [zcg]; exact List.length_map ..
 generalize hnn : (rps E m m).length = nn at *
 repeat (first | refine za7 ?_ | refine za0 rfl ?_ | refine za6 ?_ | refine za4 ?_ | refine zal ?_ | refine zd5 rfl ?_ | refine zb1 rfl rfl rfl rfl ?_)
 refine zb3 rfl rfl p43 (fun h => Bool.noConfusion (show false = true from h)) ?_
 repeat (first | refine za7 ?_ | refine za0 rfl ?_ | refine za6 ?_ | refine za4 ?_ | refine zac ?_ | refine za5 rfl ?_ | refine zad rfl rfl ?_ | refine zbx rfl rfl rfl rfl rfl rfl rfl ?_ | refine zam rfl rfl rfl ?_ | refine zcd ?_ | refine zc4 rfl rfl ?_ | refine zfc rfl rfl ?_ | refine zbh rfl rfl ?_)
 refine zc1 (fun mm S => ∃ i v hp nx ck, mm = E.length - i ∧ i ≤ E.length ∧ Rq (nn : Nat) (zaf (zj1 E m (E.take i))) v v hp nx ∧ S = st 88 [(1, .vptr [.int .i64 (m : Nat), .vs (cE (zaf E))]), (2, .mptr 0 0 0), (6, vsI (iL ((List.range m).map (cpN E m)))), (7, .int .i64 (nn : Nat)), (8, .mptr 1 1 0), (32, .vs (cE (zaf E))), (33, .int .i64 (E.length : Nat)), (34, .int .i64 (i : Nat))] hp nx ck) E.length
  (zaa (.cons rfl (.cons rfl (.cons rfl (.cons rfl (.cons rfl (.cons rfl (.cons (by exact congrArg (fun z : Nat => some (AV.int .i64 (z : Nat))) hcE) (.cons rfl .nil))))))))) ⟨0, .nils, _, _, _, rfl, Nat.zero_le _, ⟨rfl, rfl, .inl ⟨rfl, rfl⟩, by decide⟩, rfl⟩ ?_
 rintro mm S ⟨i, v, hp, nx, ck, rfl, hi, hF, rfl⟩
 have hql := zjv E m (E.take i)
 rw [List.length_take] at hql
 unfold b15_0
 repeat (first | refine za7 ?_ | refine za0 rfl ?_)
 refine zax rfl rfl rfl (fun h3 => ?_) fun h3 => ?_
 ·have hlt : i < E.length := Int.ofNat_lt.1 (of_decide_eq_true h3)
  have w1 : IntKind.wrap .i64 (((i : Nat) : Int) + 1) = ((i + 1 : Nat) : Int) := zap i (by omega)
  have hg := zlj hlt
  obtain ⟨hx, hy⟩ := hb _ _ (List.getElem_mem hlt : (E[i].1, E[i].2) ∈ E)
  have hgx := hcg _ hx
  have hgy := hcg _ hy
  have hts : zj1 E m (E.take (i + 1)) = zj1 E m (E.take i) ++ (if cpN E m E[i].1 = cpN E m E[i].2 then [] else [(cpN E m E[i].1, cpN E m E[i].2)]) := by
   rw [List.take_add_one, List.getElem?_eq_getElem hlt]
   exact zrt E m (E.take i) E[i]
  generalize cpN E m E[i].1 = a at *
  generalize cpN E m E[i].2 = b at *
  generalize E[i].1 = x at *
  generalize E[i].2 = y at *
  repeat (first | refine za7 ?_ | refine za0 rfl ?_ | refine za6 ?_ | refine za4 ?_ | refine zac ?_ | refine zal ?_ | refine zd2 rfl ?_ | refine zb1 rfl rfl rfl rfl ?_ | refine zcd ?_ | refine zay rfl rfl (by omega) (by assumption) rfl ?_)
  refine zbx (id := nx) (sp := ck) (off := 0) rfl rfl rfl rfl zaz rfl rfl ?_
  have hF1 := hF.fresh2 ck (.cells [.int .i64 0, .int .i64 0]) (ck, .cells [.int .i64 (x : Nat), .int .i64 (y : Nat)])
  have k5 : Am.look nx (zbc nx (ck, AObj.cells [.int .i64 (x : Nat), .int .i64 (y : Nat)]) ((nx, ck, AObj.cells [.int .i64 0, .int .i64 0]) :: hp)) = some (ck, .cells [.int .i64 (x : Nat), .int .i64 (y : Nat)]) := by
   rw [za2, if_pos rfl]
  repeat (first | refine za7 ?_ | refine za6 ?_ | refine za4 ?_ | refine za5 rfl ?_ | refine zbj rfl ?_ | refine zhc env0_ok rfl rfl rfl ?_)
  refine zaj (id := nx) (sp := ck) (off := 0) rfl k5 (Nat.lt_succ_self _) rfl ?_
  repeat (first | refine za5 rfl ?_ | refine zad rfl rfl ?_ | refine zbj rfl ?_ | refine zay rfl rfl (by omega) (by assumption) rfl ?_)
  refine zaj (id := nx) (sp := ck) (off := 0 + 1) rfl k5 (Nat.lt_succ_self _) rfl ?_
  repeat (first | refine za7 ?_ | refine za0 rfl ?_ | refine za6 ?_ | refine za4 ?_ | refine za5 rfl ?_ | refine zad rfl rfl ?_ | refine zay rfl rfl (by omega) (by assumption) rfl ?_)
  refine zax rfl rfl rfl (fun h4 => ?_) fun h4 => ?_
  ·have h4 : ¬ a = b := fun e => (show ¬ ((a : Nat) : Int) = (b : Nat) by simpa using h4) (by rw [e])
   rw [if_neg h4] at hts
   repeat (first | refine za0 rfl ?_ | refine za6 ?_ | refine za4 ?_ | refine zd2 rfl ?_ | refine zbj rfl ?_)
   refine zaj (id := 1) (sp := 1) (off := 0 + 1) rfl hF1.out hF1.nx1 rfl ?_
   repeat (first | refine za5 rfl ?_ | refine zfc rfl rfl ?_ | refine zbr rfl rfl ?_)
   refine zu6 (x := (((a : Nat) : Int), ((b : Nat) : Int))) (hF1.fresh _ (.cells [.int .i64 (a : Nat), .int .i64 (b : Nat)])) (by rw [zhk]; omega) rfl rfl zaz (by decide) fun w' hp' nx' ck' hF2 => ?_
   repeat (first | refine zbj rfl ?_)
   refine zbs (id := 1) (sp := 1) (off := 0 + 1) rfl rfl hF2.lst.cell.2 hF2.out (by simp) hF2.lst.cell.1 ?_
   repeat (first | refine za0 rfl ?_ | refine za6 ?_ | refine za4 ?_ | refine zc5 ?_ | refine za5 rfl ?_ | refine zbp (op := .add) rfl rfl rfl ?_)
   rw [w1]
   exact zar (show E.length - (i + 1) < E.length - i by omega) (zaa (.cons rfl (.cons rfl (.cons rfl (.cons rfl (.cons rfl (.cons rfl (.cons rfl (.cons rfl .nil))))))))) ⟨i + 1, w', _, _, _, rfl, hlt, by rw [hts, zli]; exact hF2.store w', rfl⟩
  ·have h4 : a = b := Int.ofNat_inj.1 (by simpa using h4)
   rw [if_pos h4, List.append_nil] at hts
   repeat (first | refine za0 rfl ?_ | refine za6 ?_ | refine za4 ?_ | refine zc5 ?_ | refine zal ?_ | refine zd5 rfl ?_ | refine za5 rfl ?_ | refine zbp (op := .add) rfl rfl rfl ?_)
   rw [w1]
   exact zar (show E.length - (i + 1) < E.length - i by omega) (zaa (.cons rfl (.cons rfl (.cons rfl (.cons rfl (.cons rfl (.cons rfl (.cons rfl (.cons rfl .nil))))))))) ⟨i + 1, v, _, _, _, rfl, hlt, by rw [hts]; exact hF1, rfl⟩
 ·have hie : i = E.length := by
   have h4 : ¬ ((i : Nat) : Int) < ((E.length : Nat) : Int) := of_decide_eq_false h3
   omega
  subst hie
  rw [List.take_length] at hF
  repeat (first | refine za7 ?_ | refine za6 ?_ | refine za4 ?_ | refine zd5 rfl ?_ | refine zc0 ?_ | refine zag ?_)
  refine zdj ?_
  repeat (first | refine za7 ?_ | refine za4 ?_ | refine zby ?_)
  refine z_big hF rfl rfl rfl rfl rfl rfl ?_
  have p45 := zdb nn (by omega) (zj1 E m E) (by have := zjv E m E; omega) hbl
  have hlen : ((List.range nn).map fun v => ([vN (nbr (zj1 E m E) nn v)] : List AV)).length = nn := by rw [List.length_map, List.length_range]
  generalize zj1 E m E = B at *
  have hb2 := fun u v h => (hbl u v h).2
  refine za0 rfl ?_
  repeat (first | refine za7 ?_ | refine za0 rfl ?_ | refine za6 ?_ | refine za4 ?_ | refine za5 rfl ?_ | refine zb1 rfl rfl rfl rfl ?_ | refine zbx rfl rfl rfl rfl rfl rfl rfl ?_ | refine zcd ?_ | refine zfc rfl rfl ?_)
  refine zb3 rfl rfl p45 (fun h => Bool.noConfusion (show false = true from h)) ?_
  repeat (first | refine za6 ?_ | refine za4 ?_ | refine zac ?_ | refine za5 rfl ?_ | refine zc4 rfl rfl ?_)
  refine zc1 (fun mm S => ∃ i v hp nx ck, mm = nn - i ∧ i ≤ nn ∧ Rq (nn : Nat) (zaf (zqf B nn i)) v v hp nx ∧ S = st 88 [(2, .mptr 0 0 0), (6, vsI (iL ((List.range m).map (cpN E m)))), (13, .mptr 1 1 0), (63, cN B nn), (64, .int .i64 (nn : Nat)), (65, .int .i64 (i : Nat))] hp nx ck) nn
   (zaa (.cons rfl (.cons rfl (.cons rfl (.cons rfl (.cons (by exact congrArg (fun z : Nat => some (AV.int .i64 (z : Nat))) hlen) (.cons rfl .nil))))))) ⟨0, .nils, _, _, _, rfl, Nat.zero_le _, ⟨rfl, rfl, .inl ⟨rfl, rfl⟩, by decide⟩, rfl⟩ ?_
  rintro mm S ⟨i, v, hp, nx, ck, rfl, hi, hF, rfl⟩
  have hcl2 := zk1 B nn i
  have hmul : i * nn ≤ 12 * 12 := Nat.mul_le_mul (by omega) (by omega)
  unfold b15_2
  repeat (first | refine za7 ?_ | refine za0 rfl ?_)
  refine zax rfl rfl rfl (fun h4 => ?_) fun h4 => ?_
  ·have hlt : i < nn := Int.ofNat_lt.1 (of_decide_eq_true h4)
   have w1 : IntKind.wrap .i64 (((i : Nat) : Int) + 1) = ((i + 1 : Nat) : Int) := zap i (by omega)
   have hgN := zoi (E := B) hlt
   have hnl := zih B nn i
   have hsucc := zlo B nn i
   generalize nbr B nn i = l at *
   repeat (first | refine za7 ?_ | refine za0 rfl ?_ | refine za6 ?_ | refine za4 ?_ | refine zac ?_ | refine zal ?_ | refine zd2 rfl ?_ | refine za5 rfl ?_ | refine zad rfl rfl ?_ | refine zc4 rfl rfl ?_ | refine zay rfl rfl (by omega) (by assumption) rfl ?_)
   refine zc1 (fun mm S => ∃ j v hp nx ck, mm = l.length - j ∧ j ≤ l.length ∧ Rq (nn : Nat) (zaf (zqf B nn i ++ (l.take j).map fun w => (i, w))) v v hp nx ∧ S = st 88 [(2, .mptr 0 0 0), (6, vsI (iL ((List.range m).map (cpN E m)))), (13, .mptr 1 1 0), (14, .int .i64 (i : Nat)), (63, cN B nn), (64, .int .i64 (nn : Nat)), (65, .int .i64 (i : Nat)), (70, vN l), (71, .int .i64 ((l.map fun w => ([.int .i64 (w : Nat)] : List AV)).length : Nat)), (72, .int .i64 (j : Nat))] hp nx ck) l.length
    (zaa (.cons rfl (.cons rfl (.cons rfl (.cons rfl (.cons rfl (.cons rfl (.cons rfl (.cons rfl (.cons rfl (.cons rfl .nil))))))))))) ⟨0, v, _, _, _, rfl, Nat.zero_le _, by rw [List.take_zero, List.map_nil, List.append_nil]; exact hF, rfl⟩ ?_
   rintro mm S ⟨j, v, hp, nx, ck, rfl, hj, hF, rfl⟩
   unfold b15_4
   repeat (first | refine za7 ?_ | refine za0 rfl ?_)
   refine zax rfl rfl rfl (fun h5 => ?_) fun h5 => ?_
   ·have hlt2 : j < l.length := by
     have h6 : ((j : Nat) : Int) < (((l.map fun w => ([.int .i64 (w : Nat)] : List AV)).length : Nat) : Int) := of_decide_eq_true h5
     rw [List.length_map] at h6
     exact Int.ofNat_lt.1 h6
    have w2 : IntKind.wrap .i64 (((j : Nat) : Int) + 1) = ((j + 1 : Nat) : Int) := zap j (by omega)
    have hgv := zjs hlt2
    have hts : zqf B nn i ++ (l.take (j + 1)).map (fun w => (i, w)) = (zqf B nn i ++ (l.take j).map fun w => (i, w)) ++ [(i, l[j])] := by
     rw [List.take_add_one, List.getElem?_eq_getElem hlt2, List.map_append, ← List.append_assoc]
     rfl
    generalize l[j] = w at *
    repeat (first | refine za7 ?_ | refine za0 rfl ?_ | refine za6 ?_ | refine za4 ?_ | refine zac ?_ | refine zal ?_ | refine zd2 rfl ?_ | refine za5 rfl ?_ | refine zad rfl rfl ?_ | refine zbj rfl ?_ | refine zay rfl rfl (by omega) (by assumption) rfl ?_)
    refine zaj (id := 1) (sp := 1) (off := 0 + 1) rfl hF.out hF.nx1 rfl ?_
    repeat (first | refine za5 rfl ?_ | refine zfc rfl rfl ?_ | refine zbr rfl rfl ?_)
    refine zu6 (x := (((i : Nat) : Int), ((w : Nat) : Int))) (hF.fresh _ (.cells [.int .i64 (i : Nat), .int .i64 (w : Nat)])) (by rw [zhk, List.length_append, List.length_map, List.length_take]; omega) rfl rfl zaz (by decide) fun w' hp' nx' ck' hF2 => ?_
    repeat (first | refine zbj rfl ?_)
    refine zbs (id := 1) (sp := 1) (off := 0 + 1) rfl rfl hF2.lst.cell.2 hF2.out (by simp) hF2.lst.cell.1 ?_
    repeat (first | refine za0 rfl ?_ | refine za6 ?_ | refine za4 ?_ | refine zc5 ?_ | refine za5 rfl ?_ | refine zbp (op := .add) rfl rfl rfl ?_)
    rw [w2]
    exact zar (show l.length - (j + 1) < l.length - j by omega) (zaa (.cons rfl (.cons rfl (.cons rfl (.cons rfl (.cons rfl (.cons rfl (.cons rfl (.cons rfl (.cons rfl (.cons rfl .nil))))))))))) ⟨j + 1, w', _, _, _, rfl, hlt2, by rw [hts, zli]; exact hF2.store w', rfl⟩
   ·have hje : j = l.length := by
     have h6 : ¬ ((j : Nat) : Int) < (((l.map fun w => ([.int .i64 (w : Nat)] : List AV)).length : Nat) : Int) := of_decide_eq_false h5
     rw [List.length_map] at h6
     omega
    subst hje
    rw [List.take_length] at hF
    repeat (first | refine za7 ?_ | refine za6 ?_ | refine za4 ?_ | refine zd5 rfl ?_ | refine zc0 ?_ | refine zag ?_)
    refine zdj ?_
    repeat (first | refine za0 rfl ?_ | refine za6 ?_ | refine za4 ?_ | refine zc5 ?_ | refine zby ?_ | refine za5 rfl ?_ | refine zbp (op := .add) rfl rfl rfl ?_)
    rw [w1]
    exact zar (show nn - (i + 1) < nn - i by omega) (zaa (.cons rfl (.cons rfl (.cons rfl (.cons rfl (.cons rfl (.cons rfl .nil))))))) ⟨i + 1, v, _, _, _, rfl, hlt, by rw [hsucc]; exact hF, rfl⟩
  ·have hie : i = nn := by
    have h5 : ¬ ((i : Nat) : Int) < ((nn : Nat) : Int) := of_decide_eq_false h4
    omega
   subst hie
   repeat (first | refine za7 ?_ | refine za6 ?_ | refine za4 ?_ | refine zd5 rfl ?_ | refine zc0 ?_ | refine zag ?_)
   refine zdj ?_
   repeat (first | refine za7 ?_ | refine za0 rfl ?_ | refine za4 ?_ | refine zby ?_)
   refine zpc (id := 1) (sp := 1) (off := 0) rfl hF.out hF.nx1 rfl rfl ?_
   repeat (first | refine za5 rfl ?_)
   refine zbx (id := 0) (sp := 0) (off := 0) (v := .agg [.int .i64 (i : Nat), v]) (vs := [.int .i64 (i : Nat), v]) rfl rfl rfl rfl hF.res rfl (by rw [List.all_cons, List.all_cons, hF.lst.cell.1]; rfl) ?_
   repeat (first | refine za6 ?_ | refine za4 ?_ | refine zb2 ?_ | refine za5 rfl ?_)
   refine zau ⟨.inr rfl, _, zuq ((zi4 2).trans rfl) (zk6 (sp := 0) (cs := [.int .i64 (i : Nat), v]) (by show Am.look 0 (zbc 0 _ hp) = _; rw [za2, if_pos rfl]; rfl) (show 0 < nx by have := hF.nx1; omega) rfl) ((zi4 3).trans rfl) ((zi4 4).trans rfl), ?_⟩
   have hv : Rv (zaf (zqf B i i)) v (zbc 0 (0, .cells [.int .i64 (i : Nat), v]) hp) nx := by
    rcases hF.lst with h2 | ⟨id, sp, e, hl, a, b⟩
    ·exact .inl h2
    ·exact .inr ⟨id, sp, e, by rw [za2, if_neg (by omega)]; exact hl, a, b⟩
   exact congrArg AV.tup (trip_eq (congrArg AV.agg (zik rfl hv.view)) rfl rfl)
end Go.Proofs.Ytoagikifehmlpaa
namespace Go.Proofs.Ytoagikifehmlpaa
open Go Go.Am
theorem znb (n : Int) (es : List (Int × Int)) : zj0 n es [] = zd6 n es := by
 unfold zj0
 split
 ·rename_i h
  rw [h]
  rfl
 ·rfl
end Go.Proofs.Ytoagikifehmlpaa
namespace Go.Proofs.Ytoagikifehmlpaa
open Go Go.Am
def lstF (back : List Int) (b : Int) (w : Nat) : Int := if gI back w ≥ 0 ∧ (b < 0 ∨ gI back w < gI back b.toNat) then (w : Nat) else b
def zl9 (back : List Int) (l : List Nat) : Int := l.foldl (lstF back) (-1)
structure LsW (back : List Int) (l : List Nat) (b : Int) : Prop where
 none_ : b < 0 → b = -1 ∧ ∀ w ∈ l, gI back w < 0
 some_ : 0 ≤ b → b.toNat ∈ l ∧ 0 ≤ gI back b.toNat
theorem lsW (back : List Int) : ∀ l : List Nat, LsW back l (zl9 back l) := by
 intro l
 induction l using zg0 with
 | h0 => exact ⟨fun _ => ⟨rfl, fun w h => absurd h List.not_mem_nil⟩, fun h => absurd h (by show ¬ (0 : Int) ≤ -1; decide)⟩
 | h1 l w ih =>
  unfold zl9 at ih ⊢
  rw [List.foldl_append, List.foldl_cons, List.foldl_nil]
  generalize l.foldl (lstF back) (-1) = b at *
  unfold lstF
  by_cases c : gI back w ≥ 0 ∧ (b < 0 ∨ gI back w < gI back b.toNat)
  ·rw [if_pos c]
   refine ⟨fun h => by omega, fun _ => ?_⟩
   rw [Int.toNat_natCast]
   exact ⟨by simp, c.1⟩
  ·rw [if_neg c]
   refine ⟨fun h => ?_, fun h => ?_⟩
   ·obtain ⟨a, d⟩ := ih.none_ h
    refine ⟨a, fun x hx => ?_⟩
    rcases List.mem_append.1 hx with hx | hx
    ·exact d x hx
    ·obtain rfl := List.mem_singleton.1 hx
     refine Int.not_le.1 fun h2 => c ⟨h2, .inl h⟩
   ·obtain ⟨a, d⟩ := ih.some_ h
    exact ⟨List.mem_append_left _ a, d⟩
theorem ls_ld {E : List (Nat × Nat)} {m v : Nat} (hb : ∀ u v, (u, v) ∈ E → u < m ∧ v < m) (hv : v < m) : zl9 (zef (rvE E) m v m) (nbr E m v) < 0 ↔ ldB E m v v = false := by
 have h := lsW (zef (rvE E) m v m) (nbr E m v)
 have hmem : ∀ w, w ∈ nbr E m v ↔ (v, w) ∈ E := fun w => zc3 fun u v h => (hb u v h).2
 constructor
 ·intro h0
  cases hc : ldB E m v v with
  | false => rfl
  | true =>
   unfold ldB at hc
   obtain ⟨e, he, h2⟩ := List.any_eq_true.1 hc
   rw [Bool.and_eq_true, beq_iff_eq, decide_eq_true_eq] at h2
   have he : (e.1, e.2) ∈ E := he
   rw [h2.1] at he
   have := (h.none_ h0).2 e.2 ((hmem _).2 he)
   rw [zss hb hv (hb _ _ he).2] at this
   omega
 ·intro h0
  refine Int.not_le.1 fun h1 => ?_
  obtain ⟨a, d⟩ := h.some_ h1
  have he := (hmem _).1 a
  rw [zss hb hv (hb _ _ he).2] at d
  have : ldB E m v v = true := by
   unfold ldB
   rw [List.any_eq_true]
   exact ⟨(v, (zl9 (zef (rvE E) m v m) (nbr E m v)).toNat), he, by rw [Bool.and_eq_true, beq_iff_eq, decide_eq_true_eq]; exact ⟨rfl, d⟩⟩
  rw [this] at h0
  cases h0
def cycL (E : List (Nat × Nat)) (m v : Nat) : List Nat :=
 let back := zef (rvE E) m v m
 let x := (zl9 back (nbr E m v)).toNat
 v :: (x :: zen E m back (gI back x).toNat x).take (gI back x).toNat
def cycN (m : Nat) (E : List (Nat × Nat)) : AV := match lpS E m with
 | some v => .tup [vsI (iL (cycL E m v)), .int .i64 0]
 | none => .tup [.vs [], .int .i64 6]
def cycV (n : Int) (es : List (Int × Int)) : AV := if zd6 n es = 0 then cycN n.toNat (es.map fun e => (e.1.toNat, e.2.toNat)) else .tup [.vs [], .int .i64 (zd6 n es)]
theorem zsj {m : Nat} {E : List (Nat × Nat)} (h : zd6 m (zaf E) = 0) : cycV m (zaf E) = cycN m E := by
 unfold cycV
 rw [if_pos h, zej]
 rfl
theorem cycV_err {n : Int} {es : List (Int × Int)} (h : zd6 n es ≠ 0) : cycV n es = .tup [.vs [], .int .i64 (zd6 n es)] := if_neg h
section
variable {w0 : World} {N0 n d nx ck : Nat} {k : List Fr} {Q : Exit → AS → Prop} {hp : List (Nat × Nat × AObj)} {l : List (Nat × AV)} {ios : List Opr}
theorem zsx : ∀ q : List Int, q.map (AV.int .i64) = (q.map fun z => ([.int .i64 z] : List AV)).flatten
 | [] => rfl
 | y :: q => by rw [List.map_cons, List.map_cons, List.flatten_cons, zsx q]; rfl
theorem o_slvs {pf : Kn} {sz : Nat} {ax : Arg} {es : List (List AV)} {ah : Arg} {kd : IntKind} {h : Nat} (hx : zas ax l = some (.vs es)) (h3 : zas ah l = some (.int kd (h : Nat))) (hb : h ≤ es.length) (hs : es.all (·.length == sz) = true)
  (go : Om Try.prog w0 N0 none pf ios (st n ((d, .vs (es.take h)) :: l) hp nx ck) k Q) : Om Try.prog w0 N0 none pf (⟨some d, .slsl sz ax none (some ah) none, none⟩ :: ios) (st n l hp nx ck) k Q := by
 have e2 : zo2 sz (.vs es) none (some (.int kd (h : Nat))) none = some (.vs (es.take h)) := by
  show (if 0 ≤ (0 : Int) ∧ (0 : Int) ≤ ((h : Nat) : Int) ∧ ((h : Nat) : Int) ≤ es.length ∧ es.all (·.length == sz) = true then some (AV.vs ((es.drop (0 : Int).toNat).take (((h : Nat) : Int).toNat - (0 : Int).toNat))) else none) = _
  rw [if_pos ⟨Int.le_refl 0, Int.natCast_nonneg h, by omega, hs⟩]
  simp
 have h3' : zqs (some ah) l = some (some (.int kd (h : Nat))) := by simp only [zqs, h3]
 have hi : iop (st n l hp nx ck) (.slsl sz ax none (some ah) none) = some (.vs (es.take h), st n l hp nx ck) := by
  have e3 : (st n l hp nx ck []).oarg (some ah) = some (some (.int kd (h : Nat))) := (znr (some ah)).trans h3'
  have e5 : (st n l hp nx ck []).oarg none = some none := rfl
  simp only [iop, zao, hx, e3, e5, e2]
  rfl
 exact ze2 hi go trivial
theorem o_alit {bytes id sp a : Nat} {z : List AV} {s x : Arg} {q : List Int} (hq : q.length ≤ 1000000) (hs : zas s l = some (.ms id sp 1 0 1 (some 1))) (hl : Am.look id hp = some (sp, .cells [.int .i64 (a : Nat)])) (hn : id < nx) (hx : zas x l = some (vsI q)) (hb : bytes ≤ 16777216)
  (go : ∀ w hp' nx' ck', Wq hp' nx' ((a : Nat) :: q) w → Om Try.prog w0 N0 none (KnP Try.prog w0 N0) ios (st n ((d, w) :: l) hp' nx' ck') k Q) : Om Try.prog w0 N0 none (KnP Try.prog w0 N0) (⟨some d, .append 1 bytes z s x, none⟩ :: ios) (st n l hp nx ck) k Q := by
 have hel : ∀ l, (st n l hp nx ck []).elems 1 (vsI q) = some (q.map fun z => [.int .i64 z]) := fun l => elems_vs fun x hx => by obtain ⟨s, _, rfl⟩ := List.mem_map.1 hx; rfl
 cases q with
 | nil =>
  have hi : iop (st n l hp nx ck) (.append 1 bytes z s x) = some (.ms id sp 1 0 1 (some 1), st n l hp nx ck) := by
   simp only [iop, zao, hs, hx, hel]
   rfl
  exact ze2 hi (go _ _ _ _ (.lit _ rfl hl hn)) (fun _ _ _ _ _ _ _ => rfl)
 | cons y q =>
  have hfl := zsx (y :: q)
  have hi : iop (st n l hp nx ck) (.append 1 bytes z s x) = some (.ms nx ck 1 0 (1 + (y :: q).length) none, st n l ((nx, ck, .cells ((((a : Nat) : Int) :: y :: q).map (AV.int .i64))) :: hp) (nx + 1) (ck + 1)) := by
   simp only [iop, zao, hs, hx, hel]
   unfold zb0
   rw [if_neg (by rw [List.length_map, List.length_cons]; omega), if_pos ⟨by rw [← hfl]; exact List.all_eq_true.2 fun x hx => by obtain ⟨s, _, rfl⟩ := List.mem_map.1 hx; rfl, hb⟩]
   simp only [show (st n l hp nx ck []).heap = hp from rfl, hl]
   rw [if_pos ⟨trivial, trivial, Nat.le_refl 1, by rw [List.length_map]; omega⟩, if_neg (by rw [List.length_map, List.length_cons]; omega), List.length_map, ← hfl]
   rfl
  exact ze2 hi (go _ _ _ _ (.gen (Nat.add_comm 1 _) zaz (Nat.lt_succ_self _))) (fun _ _ _ _ _ _ _ => rfl)
end
end Go.Proofs.Ytoagikifehmlpaa
namespace Go.Proofs.Ytoagikifehmlpaa
open Go Go.Am
theorem chk_of {m : Nat} {E : List (Nat × Nat)} (hm : m ≤ 256) (hE : E.length ≤ 4096) (hb : ∀ u v, (u, v) ∈ E → u < m ∧ v < m) : zd6 (m : Nat) (zaf E) = 0 := by
 unfold zd6
 rw [if_neg (by omega), if_neg (by omega), if_neg (by rw [zhk]; omega)]
 unfold zmj
 rw [if_neg]
 intro h
 obtain ⟨e, he, h2⟩ := List.any_eq_true.1 h
 unfold zaf at he
 obtain ⟨⟨a, b⟩, h3, rfl⟩ := List.mem_map.1 he
 have := hb a b h3
 unfold zf3 at h2
 rw [Bool.or_eq_true, Bool.or_eq_true, Bool.or_eq_true, decide_eq_true_eq, decide_eq_true_eq, decide_eq_true_eq, decide_eq_true_eq] at h2
 have h2 : (((a : Nat) : Int) < 0 ∨ ((a : Nat) : Int) ≥ (m : Nat)) ∨ (((b : Nat) : Int) < 0 ∨ ((b : Nat) : Int) ≥ (m : Nat)) := h2
 omega
-- slices.Equal[[]pneumatic/api.Edge,pneumatic/api.Edge]
end Go.Proofs.Ytoagikifehmlpaa
namespace Go.Proofs.Ytoagikifehmlpaa
open Go Go.Am
theorem conE_mem {B : List (Nat × Nat)} {n a b : Nat} (hb : ∀ u v, (u, v) ∈ B → u < n ∧ v < n) : (a, b) ∈ zqf B n n ↔ (a, b) ∈ B := by
 unfold zqf
 rw [List.mem_flatMap]
 constructor
 ·rintro ⟨v, _, h⟩
  obtain ⟨w, hw, e⟩ := List.mem_map.1 h
  injection e with e1 e2
  subst e1 e2
  exact (zc3 fun u v h => (hb u v h).2).1 hw
 ·intro h
  exact ⟨a, List.mem_range.2 (hb a b h).1, List.mem_map.2 ⟨b, (zc3 fun u v h => (hb u v h).2).2 h, rfl⟩⟩
theorem zsd {E : List (Nat × Nat)} {m u v : Nat} (hb : ∀ u v, (u, v) ∈ E → u < m ∧ v < m) (hu : u < m) (hv : v < m) : cpN E m u = cpN E m v ↔ Mut E u v := by
 have hk := zgl hb hv
 have h1 := zse hb hu hk
 have h2 := zse hb hv hk
 rw [beq_self_eq_true] at h2
 have hr := ((zep hb (Nat.le_refl m)).1 (List.getElem_mem hk)).1
 have m2 := (zcn hb hr hv).1 h2.symm
 constructor
 ·intro e
  rw [e, beq_self_eq_true] at h1
  exact ((zcn hb hr hu).1 h1.symm).symm.trans m2
 ·intro mu
  refine eq_of_beq (h1.trans ((zcn hb hr hu).2 (m2.trans mu.symm)))
theorem zom {E : List (Nat × Nat)} {m : Nat} (hb : ∀ u v, (u, v) ∈ E → u < m ∧ v < m) {k a b : Nat} (w : Wk (zj1 E m E) k a b) : ∀ u v, u < m → v < m → cpN E m u = a → cpN E m v = b → Rch E u v := by
 induction w with
 | refl a =>
  intro u v hu hv e1 e2
  exact ((zsd hb hu hv).1 (e1.trans e2.symm)).1
 | step w e ih =>
  intro u v hu hv e1 e2
  obtain ⟨_, ⟨x, y⟩, hxy, e3, e4⟩ := zgu.1 e
  obtain ⟨hx, hy⟩ := hb x y hxy
  exact ((ih u x hu hx e1 e3).trans (Rch.edge hxy)).trans ((zsd hb hy hv).1 (e4.trans e2.symm)).1
theorem cnd_up {E : List (Nat × Nat)} {m : Nat} {k u v : Nat} (w : Wk E k u v) : Rch (zj1 E m E) (cpN E m u) (cpN E m v) := by
 induction w with
 | refl => exact Rch.refl _ _
 | @step k u x y w e ih =>
  by_cases c : cpN E m x = cpN E m y
  ·rw [← c]; exact ih
  ·exact ih.trans (Rch.edge (zgu.2 ⟨c, (x, y), e, rfl, rfl⟩))
theorem cnd_acyc {E : List (Nat × Nat)} {m : Nat} (hb : ∀ u v, (u, v) ∈ E → u < m ∧ v < m) (a : Nat) : ¬ Cyc (zj1 E m E) a := by
 rintro ⟨k, w⟩
 obtain ⟨b, hab, w2⟩ := w.uncons
 obtain ⟨hne, ⟨x, y⟩, hxy, e3, e4⟩ := zgu.1 hab
 obtain ⟨hx, hy⟩ := hb x y hxy
 have r := zom hb w2 y x hy hx e4 e3
 have e3 : cpN E m x = a := e3
 have e4 : cpN E m y = b := e4
 exact hne (by rw [← e3, ← e4]; exact (zsd hb hx hy).2 ⟨Rch.edge hxy, r⟩)
theorem Wk.mono {E F : List (Nat × Nat)} (h : ∀ a b, (a, b) ∈ E → (a, b) ∈ F) {k u v : Nat} (w : Wk E k u v) : Wk F k u v := by
 induction w with
 | refl => exact .refl _
 | step w e ih => exact .step ih (h _ _ e)
def cdE (E : List (Nat × Nat)) (m : Nat) : List (Nat × Nat) := zqf (zj1 E m E) (rps E m m).length (rps E m m).length
theorem zjy {E : List (Nat × Nat)} {m a b : Nat} (hb : ∀ u v, (u, v) ∈ E → u < m ∧ v < m) : (a, b) ∈ cdE E m ↔ (a, b) ∈ zj1 E m E := conE_mem (zmw hb)
theorem zs1 {E : List (Nat × Nat)} {m : Nat} (hb : ∀ u v, (u, v) ∈ E → u < m ∧ v < m) : ∀ u v, (u, v) ∈ cdE E m → u < (rps E m m).length ∧ v < (rps E m m).length := fun u v h => zmw hb u v ((zjy hb).1 h)
theorem cdE_none {E : List (Nat × Nat)} {m : Nat} (hb : ∀ u v, (u, v) ∈ E → u < m ∧ v < m) : lpS (cdE E m) (rps E m m).length = none := by
 refine List.find?_eq_none.2 fun v _ hc => ?_
 obtain ⟨k, w⟩ := (ldB_cyc (zs1 hb)).1 hc
 exact cnd_acyc hb v ⟨k, w.mono fun a b h => (zjy hb).1 h⟩
theorem zs2 {E : List (Nat × Nat)} {m a b : Nat} (hb : ∀ u v, (u, v) ∈ E → u < m ∧ v < m) (ha : a < m) (hbm : b < m) : 0 ≤ gI (zef (cdE E m) (rps E m m).length (cpN E m a) (rps E m m).length) (cpN E m b) ↔ 0 ≤ gI (zef E m a m) b := by
 rw [zex (zs1 hb) (zgl hb ha), zex hb ha]
 constructor
 ·rintro ⟨k, w⟩
  exact zom hb (w.mono fun x y h => (zjy hb).1 h) a b ha hbm rfl rfl
 ·rintro ⟨k, w⟩
  obtain ⟨j, w2⟩ := cnd_up (m := m) w
  exact ⟨j, w2.mono fun x y h => (zjy hb).2 h⟩
theorem zov (f : Nat → Nat) (i : Nat) : ∀ l : List Nat, (l.filter fun v => decide (f v < i + 1)).length = (l.filter fun v => decide (f v < i)).length + (l.filter fun v => f v == i).length
 | [] => rfl
 | x :: l => by
  have ih := zov f i l
  rw [List.filter_cons, List.filter_cons, List.filter_cons]
  rcases Nat.lt_trichotomy (f x) i with c | c | c
  ·rw [if_pos (decide_eq_true (by omega)), if_pos (decide_eq_true c), if_neg (by rw [show (f x == i) = false from beq_eq_false_iff_ne.2 (by omega)]; exact Bool.false_ne_true), List.length_cons, List.length_cons]
   omega
  ·rw [if_pos (decide_eq_true (by omega)), if_neg (by rw [decide_eq_true_eq]; omega), if_pos (by rw [c]; exact beq_self_eq_true _), List.length_cons, List.length_cons]
   omega
  ·rw [if_neg (by rw [decide_eq_true_eq]; omega), if_neg (by rw [decide_eq_true_eq]; omega), if_neg (by rw [show (f x == i) = false from beq_eq_false_iff_ne.2 (by omega)]; exact Bool.false_ne_true)]
   exact ih
def smN (E : List (Nat × Nat)) (m i : Nat) : Nat := ((List.range m).filter fun v => decide (cpN E m v < i)).length
theorem smN_succ (E : List (Nat × Nat)) (m i : Nat) : smN E m (i + 1) = smN E m i + (zh5 E m m i).length := zov (cpN E m) i (List.range m)
theorem smN_zero (E : List (Nat × Nat)) (m : Nat) : smN E m 0 = 0 := by
 unfold smN
 rw [List.length_eq_zero_iff, List.filter_eq_nil_iff]
 intro v _ h
 rw [decide_eq_true_eq] at h
 omega
theorem smN_end {E : List (Nat × Nat)} {m : Nat} (hb : ∀ u v, (u, v) ∈ E → u < m ∧ v < m) : smN E m (rps E m m).length = m := by
 unfold smN
 rw [List.filter_eq_self.2 fun v hv => decide_eq_true (zgl hb (List.mem_range.1 hv)), List.length_range]
theorem smN_le (E : List (Nat × Nat)) (m i : Nat) : smN E m i ≤ m := Nat.le_trans (List.length_filter_le ..) (by rw [List.length_range]; exact Nat.le_refl _)
end Go.Proofs.Ytoagikifehmlpaa
