/-
  THE COMPONENTS: components walked.; THE COMPONENTS AS LISTS, in plain Lean.; THE CONDENSED GRAPH, in plain Lean.; THE CONDENSED GRAPH: Condense walked.; FAMILIES OF SETS IN PLAIN LEAN: the checks, the union of a choice, covers, spare sets.; FAMILIES: all, Check, given; and the same of the reference.; FAMILIES: given, union, Covers; and the same of the reference.; LISTS COPIED, AND WITHOUT AN ELEME
-/
import Derived.Test.YtfbeableaihooaaVX3
namespace Go.Proofs.Ytfbeableaihooaa
open Go Go.Am
section
variable {P : Program} {w0 : World} {N0 : Nat} {k : List Fr} {Q : Exit → AS → Prop} {pf : Kn} {ios : List Opr} {n nx ck : Nat} {mk : List (Nat × Nat)} {md : Md} {l : List (Nat × AV)} {hp : List (Nat × Nat × AObj)}
theorem zi9 {d : Nat} {kz : IntKind} {z : Int} {ok : Bool} {ma ka : Arg} {id sp : Nat} {es : List (AV × AV)} {kv : AV} {r : Option AV} (hm : zaw ma l = some (.mapv id sp)) (hk : zaw ka l = some kv) (hl : Am.look id hp = some (sp, .map es)) (hg : zcu .int kv es = some r)
  (go : Om P w0 N0 md pf ios (st n ((d, zle ok (.int kz z) r) :: l) hp nx ck mk) k Q) (hx : Ops pf (st n l hp nx ck mk) (.mapget .int (.int kz z) ok ma ka) := by exact trivial) :
  Om P w0 N0 md pf (⟨some d, .mapget .int (.int kz z) ok ma ka, none⟩ :: ios) (st n l hp nx ck mk) k Q := by
 refine zdl ?_ go hx
 simp only [iop, zal, hm, hk, AS.mapget, show (st n l hp nx ck mk).heap = hp from rfl, hl, if_true, hg]
 rfl
theorem zqo {d : Nat} {ok : Bool} {ma ka : Arg} {id sp : Nat} {es : List (AV × AV)} {kv : AV} (hm : zaw ma l = some (.mapv id sp)) (hk : zaw ka l = some kv) (hl : Am.look id hp = some (sp, .map es))
  (go : Om P w0 N0 md pf ios (st n ((d, .int .i64 (es.length : Nat)) :: l) hp nx ck mk) k Q) (hx : Ops pf (st n l hp nx ck mk) (.mapget .int .top ok ma ka) := by exact trivial) :
  Om P w0 N0 md pf (⟨some d, .mapget .int .top ok ma ka, none⟩ :: ios) (st n l hp nx ck mk) k Q := by
 refine zdl ?_ go hx
 simp only [iop, zal, hm, hk, AS.mapget, show (st n l hp nx ck mk).heap = hp from rfl, hl, if_true]
 rfl
theorem o_mapset {ma ka va : Arg} {id sp : Nat} {es es' : List (AV × AV)} {kv v : AV} (hm : zaw ma l = some (.mapv id sp)) (hk : zaw ka l = some kv) (hv : zaw va l = some v) (hl : Am.look id hp = some (sp, .map es)) (hg : zdv .int kv v es = some es')
  (go : Om P w0 N0 md pf ios (st n l (zaz id (sp, .map es') hp) nx ck mk) k Q) (hx : Ops pf (st n l hp nx ck mk) (.mapset .int ma ka va) := by exact trivial) :
  Om P w0 N0 md pf (⟨none, .mapset .int ma ka va, none⟩ :: ios) (st n l hp nx ck mk) k Q := by
 refine o_op0 (v := .tup []) ?_ go hx
 simp only [iop, zal, hm, hk, hv, AS.mapset, show (st n l hp nx ck mk).heap = hp from rfl, hl, if_true, hg]
 rfl
theorem o_mkmap {d : Nat} (go : Om P w0 N0 md pf ios (st n ((d, .mapv nx ck) :: l) ((nx, ck, .map []) :: hp) (nx + 1) (ck + 1) mk) k Q) (hx : Ops pf (st n l hp nx ck mk) .mkmap := by exact trivial) :
  Om P w0 N0 md pf (⟨some d, .mkmap, none⟩ :: ios) (st n l hp nx ck mk) k Q :=
 zdl rfl go hx
end
theorem zwj (m : Nat) : zf9 m [AV.bool false] = (List.replicate m false).map AV.bool := by
 induction m with
 | zero => rfl
 | succ m ih => rw [zf9, ih, List.replicate_succ, y1p]; rfl
theorem znh : ∀ s : List Bool, hasM.hasML (s.map AV.bool) = false
 | [] => rfl
 | b :: s => by
  show (hasM (AV.bool b) || hasM.hasML (s.map AV.bool)) = false
  rw [znh s]
  rfl
theorem noM_cN (E : List (Nat × Nat)) (m : Nat) : hasM (cN E m) = false := rfl
theorem noM1 (E : List (Nat × Nat)) (m : Nat) : hasM.hasML [cN E m] = false := rfl
def cmpV (E : List (Nat × Nat)) (m : Nat) : AV := .tup [vsI (cmpL E m), .int .i64 ((rps E m m).length : Nat)]
theorem z_cls {P : Program} {w0 : World} {N0 n nx ck : Nat} {k : List Fr} {Q : Exit → AS → Prop} {ic : IC} {l : List (Nat × AV)} {hp : List (Nat × Nat × AObj)} {a b qv : AV} {q : List Int} (h1 : zbw 1 l = some a) (ma : hasM a = false) (h5 : zbw 5 l = some b) (mb : hasM b = false) (h7 : zbw 7 l = some (.mptr 3 0 0)) (hc : Am.look 3 hp = some (0, .cells [qv])) (hG : Gv 3 q qv hp nx)
  (go : Zm P w0 N0 none ic (st n [(1, a), (5, b), (7, .mptr 0 0 0)] [(0, 0, .cells [vsI q])] 1 1) k Q) : Zm P w0 N0 none ic (st n l hp nx ck) k Q := by
 rcases hG with ⟨rfl, rfl⟩ | ⟨id, sp, rfl, hl, h3, _⟩
 ·exact zbm [(some (3, 0), [vsI []])] [] [(1, a), (5, b), (7, .mptr 0 0 0)] rfl .nil (.cons hc (.cons .nilvs .nil) .nil) (.cons h1 (.same ma) (.cons h5 (.same mb) (.cons h7 (.mptr rfl) .nil))) go
 ·have hok : okW [id] [(some (3, 0), [vsI q])] = true := by
   show (!zls 3 [id] && true) = true
   have : zls 3 [id] = false := by
    cases hb : zls 3 [id] with
    | false => rfl
    | true => have := y0e.1 (zfr.1 hb); omega
   rw [this]
   rfl
  have hfz : fzl id sp [(id, sp, q.map (AV.int .i64))] = some (q.map (AV.int .i64)) := by
   unfold fzl
   simp
  refine zbm [(some (3, 0), [vsI q])] [(id, sp, q.map (AV.int .i64))] [(1, a), (5, b), (7, .mptr 0 0 0)] hok (.cons hl (zcm _) .nil) (.cons hc (.cons (.fms hfz (y07 ..) (fun x hx => by obtain ⟨s, _, rfl⟩ := y0o.1 hx; rfl) ⟨[], ?_⟩) .nil) .nil) (.cons h1 (.same ma) (.cons h5 (.same mb) (.cons h7 (.mptr rfl) .nil))) go
  rw [y2t, y0r]
  exact ze3 q
theorem zxb : ∀ m : Nat, unF (List.replicate m false) = m
 | 0 => rfl
 | m + 1 => by
  have := zxb m
  unfold unF at this ⊢
  rw [List.replicate_succ, y14, if_pos (show (!false) = true from rfl), y0l, this]
def lv43 (E : List (Nat × Nat)) (m : Nat) : zfz := [(some (1, 2), [.ms 1 0 1 0 m (some m)]), (some (0, 1), (List.replicate m false).map AV.bool), (some (3, 4), [.fn 63 [] [.mptr 0 0 0, .vptr [cN E m], .mptr 2 0 0, .mptr 3 0 0]]), (some (2, 3), [.nils])]
theorem fnR (E : List (Nat × Nat)) (m : Nat) : RenW (lv43 E m) [] (.fn 63 [] [.mptr 1 2 0, .vptr [cN E m], .mptr 3 4 0, .mptr 2 3 0]) (.fn 63 [] [.mptr 0 0 0, .vptr [cN E m], .mptr 2 0 0, .mptr 3 0 0]) :=
 .fn rfl rfl (fun i x y e _ => by simp at e) fun i x y e1 e2 => by
  match i, e1, e2 with
  | 0, e1, e2 =>
   obtain rfl := y17 e1
   obtain rfl := y17 e2
   exact .mptr rfl
  | 1, e1, e2 =>
   obtain rfl := y17 e1
   obtain rfl := y17 e2
   exact .same rfl
  | 2, e1, e2 =>
   obtain rfl := y17 e1
   obtain rfl := y17 e2
   exact .mptr rfl
  | 3, e1, e2 =>
   obtain rfl := y17 e1
   obtain rfl := y17 e2
   exact .mptr rfl
  | i + 4, e1, e2 => simp at e1
def lw43 (E : List (Nat × Nat)) (m : Nat) (C : List Nat) : zfz := [(some (3, 3), [.ms 1 0 1 0 m (some m)]), (some (2, 2), (List.replicate m (-1 : Int)).map (AV.int .i64)), (some (4, 4), [.fn 64 [] [.mptr 0 0 0, .vptr [cN (rvE E) m], .mptr 2 0 0]]), (some (0, 0), [vsI (iL C)])]
theorem fnS (E : List (Nat × Nat)) (m : Nat) (C : List Nat) : RenW (lw43 E m C) [] (.fn 64 [] [.mptr 3 3 0, .vptr [cN (rvE E) m], .mptr 4 4 0]) (.fn 64 [] [.mptr 0 0 0, .vptr [cN (rvE E) m], .mptr 2 0 0]) :=
 .fn rfl rfl (fun i x y e _ => by simp at e) fun i x y e1 e2 => by
  match i, e1, e2 with
  | 0, e1, e2 =>
   obtain rfl := y17 e1
   obtain rfl := y17 e2
   exact .mptr rfl
  | 1, e1, e2 =>
   obtain rfl := y17 e1
   obtain rfl := y17 e2
   exact .same rfl
  | 2, e1, e2 =>
   obtain rfl := y17 e1
   obtain rfl := y17 e2
   exact .mptr rfl
  | i + 3, e1, e2 => simp at e1
set_option maxHeartbeats 8000000 in
theorem zmw (m : Nat) (hm : m ≤ 12) (E : List (Nat × Nat)) (hE : E.length ≤ 4096) (hb : ∀ u v, (u, v) ∈ E → u < m ∧ v < m) : PF Try.prog 41 [cG (m : Nat) (zav E)] (cmpV E m) := by
 have ez : ∀ o : Nat, 0 + ((o : Nat) : Int).toNat * 1 = o := fun o => by simp
 have p45 := zgq m (by omega) E (by omega) hb
 have p47 := zkp (m : Nat) (zav E) (by unfold zav; rw [y07]; omega)
 rw [zrd] at p47
 have p45r := zgq m (by omega) (rvE E) (by rw [zwr]; omega) (zkr hb)
 have hlen : ((List.range m).map fun v => ([vN (nbr E m v)] : List AV)).length = m := by rw [y07, y0v]
 refine zb0 env0_ok fn41 [(0, .agg [.int .i64 (m : Nat), .vs (cE (zav E))])] (by show 1 ≤ 80; decide) rfl fun w0 N0 => ?_
 unfold ic41
 refine zsr rfl (zcz rfl rfl (za3 rfl (za3 rfl (onu ?_))))
 refine zbm [] [(0, 0, [.int .i64 (m : Nat), .vs (cE (zav E))])] (zgg [.int .i64 (m : Nat), .vs (cE (zav E))]) rfl (.cons rfl rfl .nil) .nil (.cons rfl (.fptr rfl rfl) .nil) ?_
 refine za7 (nets43 [.int .i64 (m : Nat), .vs (cE (zav E))] (cN E m) (cG (m : Nat) (zav (rvE E))) (cN (rvE E) m) rfl rfl rfl rfl rfl rfl rfl (noM_cN E m) (noM_cN (rvE E) m) (fun S => rfl) (fun S => rfl) p45 p47 p45r ?_)
 refine zbm [] [(0, 0, [cN E m]), (1, 0, [cN (rvE E) m])] [(1, .vptr [.int .i64 (m : Nat), .vs (cE (zav E))]), (4, .vptr [cN E m]), (5, .vptr [cN (rvE E) m])] rfl (.cons rfl (noM1 E m) (.cons rfl (noM1 (rvE E) m) .nil)) .nil (.cons rfl (.same rfl) (.cons rfl (.fptr rfl rfl) (.cons rfl (.fptr rfl rfl) .nil))) ?_
 repeat (first | refine za7 ?_ | refine za0 rfl ?_ | refine zad rfl rfl ?_ | refine zai rfl rfl rfl ?_)
 refine o_mks rfl rfl ⟨y1z m, y2m _, by omega, by decide⟩ ?_
 repeat (first | refine za7 ?_ | refine za0 rfl ?_ | refine za5 ?_ | refine za4 ?_ | refine zab ?_ | refine za3 rfl ?_ | refine zad rfl rfl ?_ | refine zb3 rfl rfl rfl rfl rfl rfl rfl ?_ | refine zba ?_ | refine zbo rfl rfl ?_ | refine ze5 rfl rfl ?_)
 refine zbm (lv43 E m) [] [(1, .vptr [.int .i64 (m : Nat), .vs (cE (zav E))]), (5, .vptr [cN (rvE E) m]), (7, .mptr 3 0 0), (8, .mptr 2 0 0), (28, cN E m), (29, .int .i64 (m : Nat)), (30, .int .i64 ((0 : Nat) : Int))] rfl .nil
  (.cons rfl (.cons (.ms rfl) .nil) (.cons rfl (by rw [y11, zwj]; exact .keep (znh _)) (.cons rfl (.cons (fnR E m) .nil) (.cons rfl (.cons (.same rfl) .nil) .nil))))
  (.cons rfl (.same rfl) (.cons rfl (.same rfl) (.cons rfl (.mptr rfl) (.cons rfl (.mptr rfl) (.cons rfl (.same rfl) (.cons (by exact congrArg (fun z : Nat => some (AV.int .i64 (z : Nat))) hlen) (.same rfl) (.cons rfl (.same rfl) .nil))))))) ?_
 have hsn0 : unF (List.replicate m false) = m := zxb m
 refine zbv (fun mm S => ∃ i C hp nx ck, mm = m - i ∧ i ≤ m ∧ Vis E m (List.replicate m false) (List.range i) C ∧ VM E m 0 0 0 0 (mrk (List.replicate m false) C) (iL C) hp nx ∧ S = st 80 [(1, .vptr [.int .i64 (m : Nat), .vs (cE (zav E))]), (5, .vptr [cN (rvE E) m]), (7, .mptr 3 0 0), (8, .mptr 2 0 0), (29, .int .i64 (m : Nat)), (30, .int .i64 (i : Nat))] hp nx ck) m
  (zaa (.cons rfl (.cons rfl (.cons rfl (.cons rfl (.cons rfl (.cons rfl .nil))))))) ⟨0, [], _, _, _, rfl, y12 _, .nil _, ⟨rfl, rfl, rfl, ⟨.nils, rfl, .inl ⟨rfl, rfl⟩⟩, by show 3 < 4; decide⟩, rfl⟩ ?_
 rintro mm S ⟨i, C, hp, nx, ck, rfl, hi, hV, hM, rfl⟩
 have hnx := hM.nx
 have hvu := zxg hb hV (y15 ..) fun y hy => by rw [y0g] at hy; omega
 unfold b41_0
 repeat (first | refine za7 ?_ | refine za0 rfl ?_)
 refine zax rfl rfl rfl (fun h3 => ?_) fun h3 => ?_
 ·have hlt : i < m := y1i.1 (of_decide_eq_true h3)
  have w1 : IntKind.wrap .i64 (((i : Nat) : Int) + 1) = ((i + 1 : Nat) : Int) := zam i (by omega)
  have hft := visit60 m (by omega) E hb w0 N0 0 0 0 0 (unF (mrk (List.replicate m false) C) + 1) (mrk (List.replicate m false) C) (iL C) i ⟨hp, nx, ck⟩ (y0m _) (by rw [zji, y15]) hlt (by rw [zv0]; omega) hM
  repeat (first | refine za7 ?_ | refine za0 rfl ?_ | refine za5 ?_ | refine za4 ?_ | refine zab ?_ | refine zaf ?_ | refine zc8 rfl ?_ | refine za3 rfl ?_)
  refine zas (id := 2) (sp := 0) (off := 0) rfl hM.hw (by omega) rfl ?_
  repeat (first | refine za3 rfl ?_)
  refine o_ct _ rfl rfl (zmy hft) (fun _ _ _ _ hm => absurd hm y0i) fun r H' hF => ?_
  obtain ⟨D2, hV2, hM2⟩ := hF
  obtain ⟨hp', nx', ck'⟩ := H'
  show Om _ _ _ _ _ _ (st 80 _ hp' nx' ck') _ _
  have hV3 : Vis E m (List.replicate m false) (List.range (i + 1)) (C ++ D2) := by rw [y2k]; exact hV.snoc hV2
  repeat (first | refine za0 rfl ?_ | refine za5 ?_ | refine za4 ?_ | refine zbl ?_ | refine za3 rfl ?_ | refine zb1 (op := .add) rfl rfl rfl ?_)
  rw [w1]
  refine zay (show m - (i + 1) < m - i by omega) (zaa (.cons rfl (.cons rfl (.cons rfl (.cons rfl (.cons rfl (.cons rfl .nil))))))) ⟨i + 1, C ++ D2, _, _, _, rfl, hlt, hV3, ?_, rfl⟩
  rw [zp7, iL_app]
  exact hM2
 ·have hie : i = m := by
   have h4 : ¬ ((i : Nat) : Int) < ((m : Nat) : Int) := of_decide_eq_false h3
   omega
  subst hie
  have hC := cls_ok hb hV
  obtain ⟨qv, hc, hG⟩ := hM.hc
  repeat (first | refine za7 ?_ | refine za5 ?_ | refine za4 ?_ | refine zc7 rfl ?_ | refine zbg ?_ | refine zac ?_)
  refine zdb ?_
  repeat (first | refine za7 ?_ | refine za4 ?_ | refine zbf ?_)
  refine z_cls rfl rfl rfl rfl rfl hc hG ?_
  refine za0 rfl ?_
  repeat (first | refine zad rfl rfl ?_ | refine zai rfl rfl rfl ?_ | refine zb6 rfl rfl ?_)
  refine o_own rfl rfl (zqx hm) (zdz _) ?_
  repeat (first | refine za7 ?_ | refine za5 ?_ | refine za4 ?_ | refine zb3 rfl rfl rfl rfl rfl rfl rfl ?_ | refine zba ?_)
  refine za0 rfl ?_
  repeat (first | refine za7 ?_ | refine za5 ?_ | refine za4 ?_ | refine zba ?_)
  refine za0 rfl ?_
  repeat (first | refine za7 ?_ | refine za5 ?_ | refine za4 ?_ | refine zb3 rfl rfl rfl rfl rfl rfl rfl ?_ | refine ze5 rfl rfl ?_)
  refine zbm (lw43 E i C) [] [(1, .vptr [.int .i64 (i : Nat), .vs (cE (zav E))]), (7, .mptr 3 0 0), (10, .mptr 0 0 0), (11, .mptr 2 0 0)] rfl .nil
   (.cons rfl (.cons (.ms rfl) .nil) (.cons rfl (.keep (zcm _)) (.cons rfl (.cons (fnS E i C) .nil) (.cons rfl (.cons (.same rfl) .nil) .nil))))
   (.cons rfl (.same rfl) (.cons rfl (.mptr rfl) (.cons rfl (.mptr rfl) (.cons rfl (.mptr rfl) .nil)))) ?_
  have p63 := zro (iL C)
  refine za0 rfl ?_
  repeat (first | refine zad rfl rfl ?_)
  refine zb9 rfl rfl p63 noC ?_
  repeat (first | refine za5 ?_ | refine za4 ?_ | refine zab ?_)
  refine zo1 (zaa (l' := l43 C [.int .i64 (i : Nat), .vs (cE (zav E))]) (.cons rfl (.cons rfl (.cons rfl (.cons rfl .nil))))) ?_
  refine zxq (.inl rfl) rfl fun ha hbb => (range72 (show i ≤ 256 by omega) hC.len (fun k g H hk hG hQ => yield43 (show i ≤ 256 by omega) hb hC ha hbb k g H hk hG hQ) ⟨_, _, _⟩ (List.replicate i (-1)) Grp.start ⟨⟨rfl, rfl, rfl, by show 2 < 6; decide⟩, rfl, rfl, by show 5 < 6; decide⟩).mono fun v H2 hF => ?_
  obtain ⟨g, hG, gm, h4, h5, hnx⟩ := hF
  refine ⟨_, _, .normal, _, _, _, _, _, _, h5, by simp, rfl, fun z hz => ?_, ?_⟩
  ·obtain rfl := y0e.1 hz
   show Am.look 4 (zd4 5 H2.heap) = _
   rw [zag, if_neg (by decide)]
   exact h4
  ·have hall := zos hC hG
   obtain ⟨hce, hcl⟩ := cmp_eq hb hC hG
   have hgl := hG.len
   have hkl := zvj g
   repeat (first | refine za7 ?_ | refine za4 ?_ | refine zbl ?_)
   refine zq (q := 1) rfl [(some (0, 0), [.ms 1 0 1 0 i (some i)]), (some (1, 0), g.map (AV.int .i64))] [] [(10, .mptr 0 0 0)] rfl .nil
    (.cons (by show Am.look 0 (zd4 5 H2.heap) = _; rw [zag, if_neg (by decide)]; exact gm.h0) (.cons (.ms rfl) .nil) (.cons (by show Am.look 1 (zd4 5 H2.heap) = _; rw [zag, if_neg (by decide)]; exact gm.h1) (.keep (zcm _)) .nil)) (.cons rfl (.mptr rfl) .nil) ?_
   refine za0 rfl ?_
   refine o_mkmap ?_
   repeat (first | refine za7 ?_ | refine za0 rfl ?_ | refine za5 ?_ | refine za4 ?_ | refine zab ?_ | refine za3 rfl ?_ | refine zad rfl rfl ?_ | refine zbo rfl rfl ?_)
   refine zbv (fun mm S => ∃ j o hp, mm = i - j ∧ j ≤ i ∧ o.length = i ∧ (∀ v, v < i → gI o v = if v < j then (((kys g j).idxOf (gI g v) : Nat) : Int) else gI g v) ∧ (∀ v, v < j → gI g v ∈ kys g j) ∧ Am.look 0 hp = some (0, .cells [.ms 1 0 1 0 i (some i)]) ∧ Am.look 1 hp = some (0, .cells (o.map (AV.int .i64))) ∧ Am.look 3 hp = some (1, .map (zdq (kys g j) 0)) ∧ S = st 80 [(10, .mptr 0 0 0), (14, .mapv 3 1), (51, .ms 1 0 1 0 i (some i)), (52, .int .i64 (i : Nat)), (53, .int .i64 (j : Nat))] hp 4 2 (zho 2 1)) i
    (zaa (.cons rfl (.cons rfl (.cons rfl (.cons rfl (.cons rfl .nil)))))) ⟨0, g, _, rfl, y12 _, hgl, fun v _ => by rw [if_neg (y1w v)], fun v h => absurd h (y1w v), rfl, rfl, rfl, rfl⟩ ?_
   rintro mm S ⟨j, o, hp, rfl, hj, hol, hov, hkv, k0, k1, k3, rfl⟩
   unfold b41_4
   repeat (first | refine za7 ?_ | refine za0 rfl ?_)
   refine zax rfl rfl rfl (fun h6 => ?_) fun h6 => ?_
   ·have hlt : j < i := y1i.1 (of_decide_eq_true h6)
    have w1 : IntKind.wrap .i64 (((j : Nat) : Int) + 1) = ((j + 1 : Nat) : Int) := zam j (by omega)
    have hoj : gI o j = gI g j := by rw [hov j hlt, if_neg (Nat.lt_irrefl j)]
    have hgk := zoq (gI g j) (kys g j) 0
    have hgk2 := zoq (gI g j) (kys g (j + 1)) 0
    rw [if_pos (zvk g j), y1u] at hgk2
    have hnl : (o.set j (((kys g (j + 1)).idxOf (gI g j) : Nat) : Int)).length = i := by rw [y18]; exact hol
    have hnk : ∀ v, v < j + 1 → gI g v ∈ kys g (j + 1) := fun v hv => by
     by_cases e : v = j
     ·rw [e]; exact zvk g j
     ·exact (zqi (hkv v (by omega))).1
    have hno : ∀ v, v < i → gI (o.set j (((kys g (j + 1)).idxOf (gI g j) : Nat) : Int)) v = if v < j + 1 then (((kys g (j + 1)).idxOf (gI g v) : Nat) : Int) else gI g v := fun v hv => by
     rw [zel (by omega)]
     by_cases e : j = v
     ·rw [if_pos e, if_pos (by omega), e]
     ·rw [if_neg e, hov v hv]
      by_cases c : v < j
      ·rw [if_pos c, if_pos (by omega), (zqi (hkv v c)).2]
      ·rw [if_neg c, if_neg (by omega)]
    repeat (first | refine za7 ?_ | refine za0 rfl ?_ | refine za5 ?_ | refine za4 ?_ | refine zab ?_ | refine zaf ?_ | refine zc8 rfl ?_ | refine za3 rfl ?_ | refine zbe rfl rfl (by omega) (by omega) ?_)
    rw [ez]
    refine zas (id := 1) (sp := 0) (off := j) rfl k1 (by decide) (zqc (by omega)) ?_
    rw [hoj]
    repeat (first | refine za7 ?_ | refine za0 rfl ?_ | refine za5 ?_ | refine za4 ?_ | refine za3 rfl ?_)
    by_cases c : gI g j ∈ kys g j
    ·rw [if_pos c] at hgk
     have hks : kys g (j + 1) = kys g j := by rw [kys, if_pos c]
     have k3' : Am.look 3 hp = some (1, .map (zdq (kys g (j + 1)) 0)) := by rw [hks]; exact k3
     refine zi9 rfl rfl k3 hgk ?_
     repeat (first | refine za7 ?_ | refine za0 rfl ?_ | refine za5 ?_ | refine za4 ?_ | refine zaf ?_ | refine zc7 rfl ?_ | refine za3 rfl ?_ | refine zmd rfl rfl ?_ | refine zb5 rfl rfl ?_)
     refine zas (id := 0) (sp := 0) (off := 0) rfl k0 (by decide) rfl ?_
     repeat (first | refine za3 rfl ?_)
     refine zi9 rfl rfl k3' hgk2 ?_
     repeat (first | refine zbe rfl rfl (by omega) (by omega) ?_)
     rw [ez]
     refine zce (id := 1) (sp := 0) (off := j) rfl rfl rfl k1 (by simp; omega) rfl ?_
     repeat (first | refine za0 rfl ?_ | refine za5 ?_ | refine za4 ?_ | refine zbl ?_ | refine za3 rfl ?_ | refine zb1 (op := .add) rfl rfl rfl ?_)
     rw [w1]
     exact zay (show i - (j + 1) < i - j by omega) (zaa (.cons rfl (.cons rfl (.cons rfl (.cons rfl (.cons rfl .nil)))))) ⟨j + 1, _, _, rfl, hlt, hnl, hno, hnk, by rw [za1, if_neg (by decide)]; exact k0, by rw [za1, if_pos rfl, List.map_set]; rfl, by rw [za1, if_neg (by decide)]; exact k3', rfl⟩
    ·rw [if_neg c] at hgk
     have hks : kys g (j + 1) = kys g j ++ [gI g j] := by rw [kys, if_neg c]
     refine zi9 rfl rfl k3 hgk ?_
     repeat (first | refine za7 ?_ | refine za0 rfl ?_ | refine za5 ?_ | refine za4 ?_ | refine zc8 rfl ?_ | refine za3 rfl ?_ | refine zmd rfl rfl ?_ | refine zb5 rfl rfl ?_)
     refine zqo rfl rfl k3 ?_
     refine o_mapset rfl rfl rfl k3 (zx1 _ _ _ _ c) ?_
     rw [zje, show zdq (kys g j) 0 ++ [(AV.int .i64 (gI g j), AV.int .i64 (((kys g j).length : Nat) : Int))] = zdq (kys g (j + 1)) 0 from by rw [hks, zkd, y1u]]
     have k0' : Am.look 0 (zaz 3 (1, AObj.map (zdq (kys g (j + 1)) 0)) hp) = some (0, .cells [.ms 1 0 1 0 i (some i)]) := by rw [za1, if_neg (by decide)]; exact k0
     have k1' : Am.look 1 (zaz 3 (1, AObj.map (zdq (kys g (j + 1)) 0)) hp) = some (0, .cells (o.map (AV.int .i64))) := by rw [za1, if_neg (by decide)]; exact k1
     have k3' : Am.look 3 (zaz 3 (1, AObj.map (zdq (kys g (j + 1)) 0)) hp) = some (1, .map (zdq (kys g (j + 1)) 0)) := by rw [za1, if_pos rfl]
     repeat (first | refine za0 rfl ?_ | refine za5 ?_ | refine za4 ?_)
     refine zas (id := 0) (sp := 0) (off := 0) rfl k0' (by decide) rfl ?_
     repeat (first | refine za3 rfl ?_)
     refine zi9 rfl rfl k3' hgk2 ?_
     repeat (first | refine zbe rfl rfl (by omega) (by omega) ?_)
     rw [ez]
     refine zce (id := 1) (sp := 0) (off := j) rfl rfl rfl k1' (by simp; omega) rfl ?_
     repeat (first | refine za0 rfl ?_ | refine za5 ?_ | refine za4 ?_ | refine zbl ?_ | refine za3 rfl ?_ | refine zb1 (op := .add) rfl rfl rfl ?_)
     rw [w1]
     exact zay (show i - (j + 1) < i - j by omega) (zaa (.cons rfl (.cons rfl (.cons rfl (.cons rfl (.cons rfl .nil)))))) ⟨j + 1, _, _, rfl, hlt, hnl, hno, hnk, by rw [za1, if_neg (by decide)]; exact k0', by rw [za1, if_pos rfl, List.map_set]; rfl, by rw [za1, if_neg (by decide)]; exact k3', rfl⟩
   ·have hie : j = i := by
     have h4 : ¬ ((j : Nat) : Int) < ((i : Nat) : Int) := of_decide_eq_false h6
     omega
    subst hie
    have ho : o = cmpL E j := by
     rw [← hce]
     refine List.ext_getElem (by rw [y07, y0v]; exact hol) fun v h1 h2 => ?_
     rw [List.getElem_map, List.getElem_range]
     have := hov v (by omega)
     rw [if_pos (by omega)] at this
     rw [gI_at h1, this]
    subst ho
    repeat (first | refine za7 ?_ | refine za5 ?_ | refine za4 ?_ | refine zc7 rfl ?_ | refine zbg ?_ | refine zac ?_)
    refine zdb ?_
    repeat (first | refine za7 ?_ | refine za0 rfl ?_ | refine za4 ?_ | refine zbf ?_)
    refine zas (id := 0) (sp := 0) (off := 0) rfl k0 (by decide) rfl ?_
    repeat (first | refine za3 rfl ?_)
    refine zqo rfl rfl k3 ?_
    repeat (first | refine za5 ?_ | refine za4 ?_ | refine zao ?_ | refine za3 rfl ?_)
    refine zak ⟨.inr rfl, _, rfl, ?_⟩
    refine congrArg AV.tup (zjk (zd1 _ hol ?_) (show AV.int .i64 (((zdq (kys g j) 0).length : Nat) : Int) = _ by rw [zje, hcl]))
    show Am.look 1 (zd4 2 hp) = _
    rw [zag, if_neg (by decide)]
    exact k1
def cpN (E : List (Nat × Nat)) (m v : Nat) : Nat := (rps E m m).idxOf (zr0 E m v)
theorem cmpL_eq (E : List (Nat × Nat)) (m : Nat) : cmpL E m = iL ((List.range m).map (cpN E m)) := by
 unfold cmpL iL cpN
 rw [y26]
 rfl
theorem zq3 {E : List (Nat × Nat)} {m v : Nat} (hb : ∀ u v, (u, v) ∈ E → u < m ∧ v < m) (hv : v < m) : cpN E m v < (rps E m m).length := zhm (zgv hb (y0b m) hv)
theorem zwn (E : List (Nat × Nat)) (m i : Nat) : (rps E m i).Nodup := y2c _ y2f
theorem rps_one {E : List (Nat × Nat)} {m r s : Nat} (hb : ∀ u v, (u, v) ∈ E → u < m ∧ v < m) (hr : r ∈ rps E m m) (hs : s ∈ rps E m m) (mu : Mut E r s) : r = s := by
 have hr2 := (ze6 hb (y0b m)).1 hr
 have hs2 := (ze6 hb (y0b m)).1 hs
 rcases Nat.lt_trichotomy r s with c | c | c
 ·exact absurd mu (hs2.2 r c)
 ·exact c
 ·exact absurd mu.symm (hr2.2 s c)
theorem zq4 {E : List (Nat × Nat)} {m k v : Nat} (hb : ∀ u v, (u, v) ∈ E → u < m ∧ v < m) (hv : v < m) (hk : k < (rps E m m).length) : (cpN E m v == k) = zsb E m (rps E m m)[k] v := by
 have hm := y0y hk
 have hlt := ((ze6 hb (y0b m)).1 hm).1
 have hro := zgv hb (y0b m) hv
 obtain ⟨h1, _, _⟩ := zjo hb hv
 rw [y2u, beq_iff_eq, zcd hb hlt hv]
 unfold cpN
 constructor
 ·intro e
  have h2 := List.getElem_idxOf (zhm hro)
  have : (rps E m m)[k] = zr0 E m v := by
   rw [← h2]
   congr 1
   exact e.symm
  rw [this]
  exact h1
 ·intro mu
  have : zr0 E m v = (rps E m m)[k] := (rps_one hb hm hro (mu.trans h1.symm)).symm
  rw [this]
  exact (zwn E m m).idxOf_getElem k hk
theorem zwm (E : List (Nat × Nat)) (m i : Nat) : (rps E m i).length ≤ i := y0s (y1h ..) (by rw [y0v]; exact y0b _)
def bgF (E : List (Nat × Nat)) (m : Nat) (e : Nat × Nat) : List (Nat × Nat) := if cpN E m e.1 = cpN E m e.2 then [] else [(cpN E m e.1, cpN E m e.2)]
def zjy (E : List (Nat × Nat)) (m : Nat) (l : List (Nat × Nat)) : List (Nat × Nat) := l.flatMap (bgF E m)
theorem ztk (E : List (Nat × Nat)) (m : Nat) (l : List (Nat × Nat)) (e : Nat × Nat) : zjy E m (l ++ [e]) = zjy E m l ++ bgF E m e := by
 unfold zjy
 rw [List.flatMap_append, List.flatMap_cons, List.flatMap_nil, y0r]
theorem zky (E : List (Nat × Nat)) (m : Nat) : ∀ l, (zjy E m l).length ≤ l.length
 | [] => y0b _
 | e :: l => by
  have := zky E m l
  have h1 : (bgF E m e).length ≤ 1 := by unfold bgF; split <;> simp
  unfold zjy at this ⊢
  rw [List.flatMap_cons, y0k, y0l]
  omega
theorem zkz {E : List (Nat × Nat)} {m a b : Nat} {l : List (Nat × Nat)} : (a, b) ∈ zjy E m l ↔ a ≠ b ∧ ∃ e ∈ l, cpN E m e.1 = a ∧ cpN E m e.2 = b := by
 unfold zjy
 rw [y1s]
 constructor
 ·rintro ⟨e, he, h⟩
  unfold bgF at h
  split at h
  ·exact absurd h y0i
  ·rename_i hne
   have h := y0e.1 h
   injection h with h1 h2
   subst h1 h2
   exact ⟨hne, e, he, rfl, rfl⟩
 ·rintro ⟨hne, e, he, rfl, rfl⟩
  refine ⟨e, he, ?_⟩
  unfold bgF
  rw [if_neg hne]
  exact y0e.2 rfl
theorem zod {E : List (Nat × Nat)} {m : Nat} (hb : ∀ u v, (u, v) ∈ E → u < m ∧ v < m) : ∀ u v, (u, v) ∈ zjy E m E → u < (rps E m m).length ∧ v < (rps E m m).length := fun u v h => by
 obtain ⟨_, e, he, rfl, rfl⟩ := zkz.1 h
 have := hb e.1 e.2 he
 exact ⟨zq3 hb this.1, zq3 hb this.2⟩
def zo3 (B : List (Nat × Nat)) (n i : Nat) : List (Nat × Nat) := (List.range i).flatMap fun v => (nbr B n v).map fun w => (v, w)
theorem zmx (B : List (Nat × Nat)) (n i : Nat) : zo3 B n (i + 1) = zo3 B n i ++ (nbr B n i).map fun w => (i, w) := by
 unfold zo3
 rw [y2k, List.flatMap_append, List.flatMap_cons, List.flatMap_nil, y0r]
theorem zl6 (B : List (Nat × Nat)) (n : Nat) : ∀ i, (zo3 B n i).length ≤ i * n
 | 0 => y12 _
 | i + 1 => by
  have := zl6 B n i
  have := zlv B n i
  rw [zmx, y0k, y07, y20]
  omega
theorem zmp (a b : List (Nat × Nat)) : zav (a ++ b) = zav a ++ zav b := y16 ..
theorem zio (a : List (Nat × Nat)) : (zav a).length = a.length := y07 ..
def cndN (m : Nat) (E : List (Nat × Nat)) : AV := .tup [cG ((rps E m m).length : Nat) (zav (zo3 (zjy E m E) (rps E m m).length (rps E m m).length)), vsI (iL ((List.range m).map (cpN E m))), .int .i64 0]
def cndV (n : Int) (es : List (Int × Int)) : AV := if zgc n es = 0 then cndN n.toNat (es.map fun e => (e.1.toNat, e.2.toNat)) else .tup [cG 0 [], .vs [], .int .i64 (zgc n es)]
theorem zty {m : Nat} {E : List (Nat × Nat)} (h : zgc m (zav E) = 0) : cndV m (zav E) = cndN m E := by
 unfold cndV
 rw [if_pos h, zgj]
 rfl
theorem cndV_err {n : Int} {es : List (Int × Int)} (h : zgc n es ≠ 0) : cndV n es = .tup [cG 0 [], .vs [], .int .i64 (zgc n es)] := if_neg h
theorem trip_eq {α : Type} {a a' b b' c c' : α} (h1 : a = a') (h2 : b = b') (h3 : c = c') : [a, b, c] = [a', b', c'] := by rw [h1, h2, h3]
theorem zwk {S : AS} {a b c : Nat} {pa x y v u : AV} (h1 : S.get a = some pa) (d1 : S.deref pa = some [x, y]) (h2 : S.get b = some v) (h3 : S.get c = some u) : S.res [.cell a (some 2), .t b, .t c] = some (.tup [.agg [x, y], v, u]) := by
 simp [AS.res, AS.resL, zp5, h1, d1, h2, h3]
theorem zvu {x : Nat} {l : List Nat} (h : x ∉ l) : zls x l = false := by
 cases hb : zls x l with
 | false => rfl
 | true => exact absurd (zfr.1 hb) h
theorem noM_cE : ∀ q : List (Int × Int), hasM.hasML (cE q).flatten = false
 | [] => rfl
 | e :: q => by
  show (hasM (AV.int .i64 e.1) || (hasM (AV.int .i64 e.2) || hasM.hasML (cE q).flatten)) = false
  rw [noM_cE q]
  rfl
theorem z_big {P : Program} {w0 : World} {N0 n nx ck : Nat} {k : List Fr} {Q : Exit → AS → Prop} {ic : IC} {l : List (Nat × AV)} {hp : List (Nat × Nat × AObj)} {g b v : AV} {z : Int} {q : List (Int × Int)} (hF : Rq z q v v hp nx) (h2 : zbw 2 l = some (.mptr 0 0 0)) (h6 : zbw 6 l = some g) (mg : hasM g = false) (h7 : zbw 7 l = some b) (mb : hasM b = false) (h8 : zbw 8 l = some (.mptr 1 1 0))
  (go : Zm P w0 N0 none ic (st n [(2, .mptr 0 0 0), (6, g), (7, b), (8, .vptr [.int .i64 z, .vs (cE q)])] [(0, 0, .cells [.int .i64 0, .nils])] 1 1) k Q) : Zm P w0 N0 none ic (st n l hp nx ck) k Q := by
 have go2 : Zm P w0 N0 none ic (st n [(2, .mptr 0 0 0), (6, g), (7, b), (8, .mptr 1 0 0)] [(0, 0, .cells [.int .i64 0, .nils]), (1, 0, .cells [.int .i64 z, .vs (cE q)])] 2 1) k Q :=
  zbm [(some (0, 0), [.int .i64 0, .nils])] [(1, 0, [.int .i64 z, .vs (cE q)])] [(2, .mptr 0 0 0), (6, g), (7, b), (8, .vptr [.int .i64 z, .vs (cE q)])] rfl (.cons rfl rfl .nil) (.cons rfl (.cons (.same rfl) (.cons (.same rfl) .nil)) .nil) (.cons rfl (.mptr rfl) (.cons rfl (.same mg) (.cons rfl (.same mb) (.cons rfl (.fptr rfl rfl) .nil)))) go
 rcases hF.lst with ⟨rfl, rfl⟩ | ⟨id, sp, rfl, hl, h3, _⟩
 ·exact zbm [(some (0, 0), [.int .i64 0, .nils]), (some (1, 1), [.int .i64 z, .vs []])] [] [(2, .mptr 0 0 0), (6, g), (7, b), (8, .mptr 1 0 0)] rfl .nil (.cons hF.res (.cons (.same rfl) (.cons (.same rfl) .nil)) (.cons hF.out (.cons (.same rfl) (.cons .nilvs .nil)) .nil)) (.cons h2 (.mptr rfl) (.cons h6 (.same mg) (.cons h7 (.same mb) (.cons h8 (.mptr rfl) .nil)))) go2
 ·have hok : okW [id] [(some (0, 0), [.int .i64 0, .nils]), (some (1, 1), [.int .i64 z, .vs (cE q)])] = true := by
   show (!zls 0 [id] && (!zls 1 [0, id] && true)) = true
   rw [zvu (by simp; omega), zvu (by simp; omega)]
   rfl
  have hfz : fzl id sp [(id, sp, (cE q).flatten)] = some (cE q).flatten := by
   unfold fzl
   simp
  refine zbm [(some (0, 0), [.int .i64 0, .nils]), (some (1, 1), [.int .i64 z, .vs (cE q)])] [(id, sp, (cE q).flatten)] [(2, .mptr 0 0 0), (6, g), (7, b), (8, .mptr 1 0 0)] hok (.cons hl ?_ .nil) (.cons hF.res (.cons (.same rfl) (.cons (.same rfl) .nil)) (.cons hF.out (.cons (.same rfl) (.cons (.fms hfz (zco q) (fun x hx => by obtain ⟨s, _, rfl⟩ := y0o.1 hx; rfl) ⟨[], by rw [y2t, y0r]⟩) .nil)) .nil)) (.cons h2 (.mptr rfl) (.cons h6 (.same mg) (.cons h7 (.same mb) (.cons h8 (.mptr rfl) .nil)))) go2
  exact noM_cE q
def b15_0 : IC := .seq (.region [oM 35 (.bin .lss (.t 34) (.t 33))] none)
 (.seq (.cond (.t 35) (.skip)
 (.exit 0))
 (.seq (.block 1 (.seq (.region [oM 36 (.idxs 2 (.t 32) (.t 34)),
  oL 37 2 36,
  oM 10 (.alloc [.int .i64 0, .int .i64 0]),
  ⟨none, .store 2 (.t 10) (.t 37), none⟩] none)
 (.seq (.region [oT 38 6,
  oF 39 0 10,
  oN 40 39,
  oM 41 (.idxs 1 (.t 38) (.t 40)),
  oN 42 41,
  oT 43 6,
  oF 44 1 10,
  oN 45 44,
  oM 46 (.idxs 1 (.t 43) (.t 45)),
  oN 47 46,
  oT 11 42,
  oT 12 47] (some [[], [], [1], [0, 2], [3], [], [], [6], [5, 7], [8], [4, 0, 1, 2, 3, 4], [9, 10, 0, 1, 2, 3, 4, 5, 6, 7, 8, 9, 10]]))
 (.seq (.region [oT 48 11,
  oT 49 12,
  oM 50 (.bin .neq (.t 48) (.t 49))] none)
 (.cond (.t 50) (.region [oF 51 1 8,
  oN 52 51,
  oT 53 11,
  oT 54 12,
  oM 55 (.build [.int .i64 0, .int .i64 0] [(0, 1, (.t 53)), (1, 1, (.t 54))]),
  oM 56 (.bslice 2 1 [.int .i64 0, .int .i64 0] [(0, 2, (.t 55))]),
  oM 57 (.append 2 16 [.int .i64 0, .int .i64 0] (.t 52) (.t 56)),
  oF 58 1 8,
  ⟨none, .store 1 (.t 58) (.t 57), none⟩] none)
 (.skip))))))
 (.region [oM 59 (.bin .add (.t 34) (.c (.int .i64 1))),
  oT 34 59] none)))
def b15_4 : IC := .seq (.region [oM 73 (.bin .lss (.t 72) (.t 71))] none)
 (.seq (.cond (.t 73) (.skip)
 (.exit 4))
 (.seq (.block 5 (.seq (.region [oM 74 (.idxs 1 (.t 70) (.t 72)),
  oN 75 74,
  oT 17 75] none)
 (.region [oF 76 1 13,
  oN 77 76,
  oT 78 14,
  oT 79 17,
  oM 80 (.build [.int .i64 0, .int .i64 0] [(0, 1, (.t 78)), (1, 1, (.t 79))]),
  oM 81 (.bslice 2 1 [.int .i64 0, .int .i64 0] [(0, 2, (.t 80))]),
  oM 82 (.append 2 16 [.int .i64 0, .int .i64 0] (.t 77) (.t 81)),
  oF 83 1 13,
  ⟨none, .store 1 (.t 83) (.t 82), none⟩] none)))
 (.region [oM 84 (.bin .add (.t 72) (.c (.int .i64 1))),
  oT 72 84] none)))
def b15_2 : IC := .seq (.region [oM 66 (.bin .lss (.t 65) (.t 64))] none)
 (.seq (.cond (.t 66) (.skip)
 (.exit 2))
 (.seq (.block 3 (.seq (.region [oT 67 65,
  oM 68 (.idxs 1 (.t 63) (.t 65)),
  oN 69 68,
  oT 14 67,
  oT 15 69] none)
 (.seq (.region [oT 70 15,
  oM 71 (.len false (.t 70)),
  oM 72 (.mov (.c (.int .i64 0)))] none)
 (.block 4 (.loop b15_4)))))
 (.region [oM 85 (.bin .add (.t 65) (.c (.int .i64 1))),
  oT 65 85] none)))
-- pneumatic/digraph.Condense
def ic15 : IC := .seq (.region [oM 1 (.box (.t 0)),
  oM 2 (.alloc [.int .i64 0, .nils]),
  oM 3 (.mov (.c (.nils))),
  oM 4 (.mov (.c (.int .i64 0)))] none)
 (.seq (.seq (.region [oL 18 2 1,
  oM 19 (.call (.c (.fn 40 [] [])) [(.t 18)]),
  oT 5 19] none)
 (.seq (.region [oT 20 5,
  oM 21 (.bin .neq (.t 20) (.c (.int .i64 0)))] none)
 (.cond (.t 21) (.seq (.region [oM 22 (.build [.int .i64 0, .nils] []),
  oT 23 5,
  ⟨none, .store 2 (.t 2) (.t 22), none⟩,
  oM 3 (.mov (.c (.nils))),
  oT 4 23] none)
 (.ret))
 (.skip))))
 (.seq (.region [oL 25 2 1,
  oM 26 (.call (.c (.fn 41 [] [])) [(.t 25)]),
  oT 24 26,
  oM 27 (.extract (.t 24) 0),
  oM 28 (.extract (.t 24) 1),
  oT 6 27,
  oT 7 28] none)
 (.seq (.region [oT 29 7,
  oM 30 (.build [.int .i64 0, .nils] [(0, 1, (.t 29))]),
  oM 8 (.alloc [.int .i64 0, .nils]),
  ⟨none, .store 2 (.t 8) (.t 30), none⟩] none)
 (.seq (.seq (.region [oF 31 1 1,
  oN 32 31,
  oM 33 (.len false (.t 32)),
  oM 34 (.mov (.c (.int .i64 0)))] none)
 (.block 0 (.loop b15_0)))
 (.seq (.region [oT 60 7,
  oM 61 (.build [.int .i64 0, .nils] [(0, 1, (.t 60))]),
  oM 13 (.alloc [.int .i64 0, .nils]),
  ⟨none, .store 2 (.t 13) (.t 61), none⟩] none)
 (.seq (.seq (.region [oL 62 2 8,
  oM 63 (.call (.c (.fn 42 [] [])) [(.t 62)]),
  oM 64 (.len false (.t 63)),
  oM 65 (.mov (.c (.int .i64 0)))] none)
 (.block 2 (.loop b15_2)))
 (.seq (.region [oL 86 2 13,
  oT 87 6,
  ⟨none, .store 2 (.t 2) (.t 86), none⟩,
  oT 3 87,
  oM 4 (.mov (.c (.int .i64 0)))] none)
 (.ret))))))))
theorem fn15 : env0.fn 15 = some ⟨88, ic15, [.cell 2 (some 2), .t 3, .t 4]⟩ := by kernel_rfl
set_option maxHeartbeats 8000000 in
theorem zrw (n : Int) (es : List (Int × Int)) (hn : zgc n es = 0 → n ≤ 12) : PF Try.prog 15 [cG n es] (cndV n es) := by
 have p34 := ztu n es
 refine zb0 env0_ok fn15 [(0, .agg [.int .i64 n, .vs (cE es)])] (by show 1 ≤ 88; decide) rfl fun w0 N0 => ?_
 unfold ic15
 refine zsr rfl (zcz rfl rfl (zba (za3 rfl (za3 rfl (onu ?_)))))
 refine zbm [(some (1, 1), [.int .i64 0, .nils])] [(0, 0, [.int .i64 n, .vs (cE es)])] [(1, .vptr [.int .i64 n, .vs (cE es)]), (2, .mptr 0 0 0)] rfl (.cons rfl rfl .nil) (.cons rfl (.cons (.same rfl) (.cons (.same rfl) .nil)) .nil) (.cons rfl (.fptr rfl rfl) (.cons rfl (.mptr rfl) .nil)) ?_
 repeat (first | refine za7 ?_ | refine za0 rfl ?_ | refine zb2 rfl rfl rfl rfl ?_)
 refine zb9 rfl rfl p34 noC ?_
 repeat (first | refine za7 ?_ | refine za0 rfl ?_ | refine za5 ?_ | refine za4 ?_ | refine za3 rfl ?_)
 refine zax rfl rfl rfl (fun h => ?_) fun h => ?_
 ·have h : ¬ zgc n es = 0 := by simpa using h
  rw [cndV_err h]
  repeat (first | refine za7 ?_ | refine za0 rfl ?_ | refine za5 ?_ | refine za4 ?_ | refine zc8 rfl ?_ | refine zao ?_ | refine za9 ?_ | refine za3 rfl ?_ | refine zb3 rfl rfl rfl rfl rfl rfl rfl ?_ | refine zbz rfl rfl ?_)
  exact zak ⟨.inr rfl, _, rfl, rfl⟩
 have h : zgc n es = 0 := by simpa using h
 have hn := hn h
 obtain ⟨m, E, rfl, rfl, hm, _, hE, hb⟩ := zit h
 rw [zty h]
 have p43 := zmw m (by omega) E hE hb
 unfold cmpV at p43
 rw [cmpL_eq] at p43
 have hrl := zwm E m m
 have hcp := fun v (hv : v < m) => zq3 hb hv
 have hbl := zod hb
 unfold cndN
 have hcl : ((List.range m).map (cpN E m)).length = m := by rw [y07, y0v]
 have hcg : ∀ v, v < m → ((iL ((List.range m).map (cpN E m))).map fun z => ([.int .i64 z] : List AV))[((v : Nat) : Int).toNat]? = some [.int .i64 (cpN E m v : Nat)] := fun v hv => by
  rw [iL_get (by rw [hcl]; exact hv), ← gN_at (by rw [hcl]; exact hv), List.getElem_map, List.getElem_range]
 have hcE : (cE (zav E)).length = E.length := by rw [zco]; exact y07 ..
 generalize hnn : (rps E m m).length = nn at *
 repeat (first | refine za7 ?_ | refine za0 rfl ?_ | refine za5 ?_ | refine za4 ?_ | refine zaf ?_ | refine zc7 rfl ?_ | refine zb2 rfl rfl rfl rfl ?_)
 refine zb9 rfl rfl p43 noC ?_
 repeat (first | refine za7 ?_ | refine za0 rfl ?_ | refine za5 ?_ | refine za4 ?_ | refine zab ?_ | refine za3 rfl ?_ | refine zad rfl rfl ?_ | refine zb3 rfl rfl rfl rfl rfl rfl rfl ?_ | refine zai rfl rfl rfl ?_ | refine zba ?_ | refine zbo rfl rfl ?_ | refine zbz rfl rfl ?_ | refine zb5 rfl rfl ?_)
 refine zbv (fun mm S => ∃ i v hp nx ck, mm = E.length - i ∧ i ≤ E.length ∧ Rq (nn : Nat) (zav (zjy E m (E.take i))) v v hp nx ∧ S = st 88 [(1, .vptr [.int .i64 (m : Nat), .vs (cE (zav E))]), (2, .mptr 0 0 0), (6, vsI (iL ((List.range m).map (cpN E m)))), (7, .int .i64 (nn : Nat)), (8, .mptr 1 1 0), (32, .vs (cE (zav E))), (33, .int .i64 (E.length : Nat)), (34, .int .i64 (i : Nat))] hp nx ck) E.length
  (zaa (.cons rfl (.cons rfl (.cons rfl (.cons rfl (.cons rfl (.cons rfl (.cons (by exact congrArg (fun z : Nat => some (AV.int .i64 (z : Nat))) hcE) (.cons rfl .nil))))))))) ⟨0, .nils, _, _, _, rfl, y12 _, ⟨rfl, rfl, .inl ⟨rfl, rfl⟩, by decide⟩, rfl⟩ ?_
 rintro mm S ⟨i, v, hp, nx, ck, rfl, hi, hF, rfl⟩
 have hql := zky E m (E.take i)
 rw [y2w] at hql
 unfold b15_0
 repeat (first | refine za7 ?_ | refine za0 rfl ?_)
 refine zax rfl rfl rfl (fun h3 => ?_) fun h3 => ?_
 ·have hlt : i < E.length := y1i.1 (of_decide_eq_true h3)
  have w1 : IntKind.wrap .i64 (((i : Nat) : Int) + 1) = ((i + 1 : Nat) : Int) := zam i (by omega)
  have hg := zmq hlt
  obtain ⟨hx, hy⟩ := hb _ _ (y0y hlt : (E[i].1, E[i].2) ∈ E)
  have hgx := hcg _ hx
  have hgy := hcg _ hy
  have hts : zjy E m (E.take (i + 1)) = zjy E m (E.take i) ++ (if cpN E m E[i].1 = cpN E m E[i].2 then [] else [(cpN E m E[i].1, cpN E m E[i].2)]) := by
   rw [y1x, y06 hlt]
   exact ztk E m (E.take i) E[i]
  generalize cpN E m E[i].1 = a at *
  generalize cpN E m E[i].2 = b at *
  generalize E[i].1 = x at *
  generalize E[i].2 = y at *
  repeat (first | refine za7 ?_ | refine za0 rfl ?_ | refine za5 ?_ | refine za4 ?_ | refine zab ?_ | refine zaf ?_ | refine zc8 rfl ?_ | refine zb2 rfl rfl rfl rfl ?_ | refine zba ?_ | refine zb7 rfl rfl (by omega) (by assumption) rfl ?_)
  refine zb3 (id := nx) (sp := ck) (off := 0) rfl rfl rfl rfl zaq rfl rfl ?_
  have hF1 := hF.fresh2 ck (.cells [.int .i64 0, .int .i64 0]) (ck, .cells [.int .i64 (x : Nat), .int .i64 (y : Nat)])
  have k5 : Am.look nx (zaz nx (ck, AObj.cells [.int .i64 (x : Nat), .int .i64 (y : Nat)]) ((nx, ck, AObj.cells [.int .i64 0, .int .i64 0]) :: hp)) = some (ck, .cells [.int .i64 (x : Nat), .int .i64 (y : Nat)]) := by
   rw [za1, if_pos rfl]
  repeat (first | refine za7 ?_ | refine za5 ?_ | refine za4 ?_ | refine za3 rfl ?_ | refine zar rfl ?_ | refine zdf env0_ok rfl rfl rfl ?_)
  refine zas (id := nx) (sp := ck) (off := 0) rfl k5 (y0m _) rfl ?_
  repeat (first | refine za3 rfl ?_ | refine zad rfl rfl ?_ | refine zar rfl ?_ | refine zb7 rfl rfl (by omega) (by assumption) rfl ?_)
  refine zas (id := nx) (sp := ck) (off := 0 + 1) rfl k5 (y0m _) rfl ?_
  repeat (first | refine za7 ?_ | refine za0 rfl ?_ | refine za5 ?_ | refine za4 ?_ | refine za3 rfl ?_ | refine zad rfl rfl ?_ | refine zb7 rfl rfl (by omega) (by assumption) rfl ?_)
  refine zax rfl rfl rfl (fun h4 => ?_) fun h4 => ?_
  ·have h4 : ¬ a = b := fun e => (show ¬ ((a : Nat) : Int) = (b : Nat) by simpa using h4) (by rw [e])
   rw [if_neg h4] at hts
   repeat (first | refine za0 rfl ?_ | refine za5 ?_ | refine za4 ?_ | refine zc8 rfl ?_ | refine zar rfl ?_)
   refine zas (id := 1) (sp := 1) (off := 0 + 1) rfl hF1.out hF1.nx1 rfl ?_
   repeat (first | refine za3 rfl ?_ | refine zbz rfl rfl ?_ | refine zb6 rfl rfl ?_)
   refine zw0 (x := (((a : Nat) : Int), ((b : Nat) : Int))) (hF1.fresh _ (.cells [.int .i64 (a : Nat), .int .i64 (b : Nat)])) (by rw [zio]; omega) rfl rfl zaq (by decide) fun w' hp' nx' ck' hF2 => ?_
   repeat (first | refine zar rfl ?_)
   refine zce (id := 1) (sp := 1) (off := 0 + 1) rfl rfl hF2.lst.cell.2 hF2.out (by simp) hF2.lst.cell.1 ?_
   repeat (first | refine za0 rfl ?_ | refine za5 ?_ | refine za4 ?_ | refine zbl ?_ | refine za3 rfl ?_ | refine zb1 (op := .add) rfl rfl rfl ?_)
   rw [w1]
   exact zay (show E.length - (i + 1) < E.length - i by omega) (zaa (.cons rfl (.cons rfl (.cons rfl (.cons rfl (.cons rfl (.cons rfl (.cons rfl (.cons rfl .nil))))))))) ⟨i + 1, w', _, _, _, rfl, hlt, by rw [hts, zmp]; exact hF2.store w', rfl⟩
  ·have h4 : a = b := Int.ofNat_inj.1 (by simpa using h4)
   rw [if_pos h4, y0r] at hts
   repeat (first | refine za0 rfl ?_ | refine za5 ?_ | refine za4 ?_ | refine zbl ?_ | refine zaf ?_ | refine zc7 rfl ?_ | refine za3 rfl ?_ | refine zb1 (op := .add) rfl rfl rfl ?_)
   rw [w1]
   exact zay (show E.length - (i + 1) < E.length - i by omega) (zaa (.cons rfl (.cons rfl (.cons rfl (.cons rfl (.cons rfl (.cons rfl (.cons rfl (.cons rfl .nil))))))))) ⟨i + 1, v, _, _, _, rfl, hlt, by rw [hts]; exact hF1, rfl⟩
 ·have hie : i = E.length := by
   have h4 : ¬ ((i : Nat) : Int) < ((E.length : Nat) : Int) := of_decide_eq_false h3
   omega
  subst hie
  rw [y1k] at hF
  repeat (first | refine za7 ?_ | refine za5 ?_ | refine za4 ?_ | refine zc7 rfl ?_ | refine zbg ?_ | refine zac ?_)
  refine zdb ?_
  repeat (first | refine za7 ?_ | refine za4 ?_ | refine zbf ?_)
  refine z_big hF rfl rfl rfl rfl rfl rfl ?_
  have p45 := zgq nn (by omega) (zjy E m E) (by have := zky E m E; omega) hbl
  have hlen : ((List.range nn).map fun v => ([vN (nbr (zjy E m E) nn v)] : List AV)).length = nn := by rw [y07, y0v]
  generalize zjy E m E = B at *
  have hb2 := fun u v h => (hbl u v h).2
  refine za0 rfl ?_
  repeat (first | refine za7 ?_ | refine za0 rfl ?_ | refine za5 ?_ | refine za4 ?_ | refine za3 rfl ?_ | refine zb2 rfl rfl rfl rfl ?_ | refine zb3 rfl rfl rfl rfl rfl rfl rfl ?_ | refine zba ?_ | refine zbz rfl rfl ?_)
  refine zb9 rfl rfl p45 noC ?_
  repeat (first | refine za5 ?_ | refine za4 ?_ | refine zab ?_ | refine za3 rfl ?_ | refine zbo rfl rfl ?_)
  refine zbv (fun mm S => ∃ i v hp nx ck, mm = nn - i ∧ i ≤ nn ∧ Rq (nn : Nat) (zav (zo3 B nn i)) v v hp nx ∧ S = st 88 [(2, .mptr 0 0 0), (6, vsI (iL ((List.range m).map (cpN E m)))), (13, .mptr 1 1 0), (63, cN B nn), (64, .int .i64 (nn : Nat)), (65, .int .i64 (i : Nat))] hp nx ck) nn
   (zaa (.cons rfl (.cons rfl (.cons rfl (.cons rfl (.cons (by exact congrArg (fun z : Nat => some (AV.int .i64 (z : Nat))) hlen) (.cons rfl .nil))))))) ⟨0, .nils, _, _, _, rfl, y12 _, ⟨rfl, rfl, .inl ⟨rfl, rfl⟩, by decide⟩, rfl⟩ ?_
  rintro mm S ⟨i, v, hp, nx, ck, rfl, hi, hF, rfl⟩
  have hcl2 := zl6 B nn i
  have hmul : i * nn ≤ 12 * 12 := Nat.mul_le_mul (by omega) (by omega)
  unfold b15_2
  repeat (first | refine za7 ?_ | refine za0 rfl ?_)
  refine zax rfl rfl rfl (fun h4 => ?_) fun h4 => ?_
  ·have hlt : i < nn := y1i.1 (of_decide_eq_true h4)
   have w1 : IntKind.wrap .i64 (((i : Nat) : Int) + 1) = ((i + 1 : Nat) : Int) := zam i (by omega)
   have hgN := ztq (E := B) hlt
   have hnl := zlv B nn i
   have hsucc := zmx B nn i
   generalize nbr B nn i = l at *
   repeat (first | refine za7 ?_ | refine za0 rfl ?_ | refine za5 ?_ | refine za4 ?_ | refine zab ?_ | refine zaf ?_ | refine zc8 rfl ?_ | refine za3 rfl ?_ | refine zad rfl rfl ?_ | refine zbo rfl rfl ?_ | refine zb7 rfl rfl (by omega) (by assumption) rfl ?_)
   refine zbv (fun mm S => ∃ j v hp nx ck, mm = l.length - j ∧ j ≤ l.length ∧ Rq (nn : Nat) (zav (zo3 B nn i ++ (l.take j).map fun w => (i, w))) v v hp nx ∧ S = st 88 [(2, .mptr 0 0 0), (6, vsI (iL ((List.range m).map (cpN E m)))), (13, .mptr 1 1 0), (14, .int .i64 (i : Nat)), (63, cN B nn), (64, .int .i64 (nn : Nat)), (65, .int .i64 (i : Nat)), (70, vN l), (71, .int .i64 ((l.map fun w => ([.int .i64 (w : Nat)] : List AV)).length : Nat)), (72, .int .i64 (j : Nat))] hp nx ck) l.length
    (zaa (.cons rfl (.cons rfl (.cons rfl (.cons rfl (.cons rfl (.cons rfl (.cons rfl (.cons rfl (.cons rfl (.cons rfl .nil))))))))))) ⟨0, v, _, _, _, rfl, y12 _, by rw [List.take_zero, List.map_nil, y0r]; exact hF, rfl⟩ ?_
   rintro mm S ⟨j, v, hp, nx, ck, rfl, hj, hF, rfl⟩
   unfold b15_4
   repeat (first | refine za7 ?_ | refine za0 rfl ?_)
   refine zax rfl rfl rfl (fun h5 => ?_) fun h5 => ?_
   ·have hlt2 : j < l.length := by
     have h6 : ((j : Nat) : Int) < (((l.map fun w => ([.int .i64 (w : Nat)] : List AV)).length : Nat) : Int) := of_decide_eq_true h5
     rw [y07] at h6
     exact y1i.1 h6
    have w2 : IntKind.wrap .i64 (((j : Nat) : Int) + 1) = ((j + 1 : Nat) : Int) := zam j (by omega)
    have hgv := zny hlt2
    have hts : zo3 B nn i ++ (l.take (j + 1)).map (fun w => (i, w)) = (zo3 B nn i ++ (l.take j).map fun w => (i, w)) ++ [(i, l[j])] := by
     rw [y1x, y06 hlt2, y16, ← y19]
     rfl
    generalize l[j] = w at *
    repeat (first | refine za7 ?_ | refine za0 rfl ?_ | refine za5 ?_ | refine za4 ?_ | refine zab ?_ | refine zaf ?_ | refine zc8 rfl ?_ | refine za3 rfl ?_ | refine zad rfl rfl ?_ | refine zar rfl ?_ | refine zb7 rfl rfl (by omega) (by assumption) rfl ?_)
    refine zas (id := 1) (sp := 1) (off := 0 + 1) rfl hF.out hF.nx1 rfl ?_
    repeat (first | refine za3 rfl ?_ | refine zbz rfl rfl ?_ | refine zb6 rfl rfl ?_)
    refine zw0 (x := (((i : Nat) : Int), ((w : Nat) : Int))) (hF.fresh _ (.cells [.int .i64 (i : Nat), .int .i64 (w : Nat)])) (by rw [zio, y0k, y07, y2w]; omega) rfl rfl zaq (by decide) fun w' hp' nx' ck' hF2 => ?_
    repeat (first | refine zar rfl ?_)
    refine zce (id := 1) (sp := 1) (off := 0 + 1) rfl rfl hF2.lst.cell.2 hF2.out (by simp) hF2.lst.cell.1 ?_
    repeat (first | refine za0 rfl ?_ | refine za5 ?_ | refine za4 ?_ | refine zbl ?_ | refine za3 rfl ?_ | refine zb1 (op := .add) rfl rfl rfl ?_)
    rw [w2]
    exact zay (show l.length - (j + 1) < l.length - j by omega) (zaa (.cons rfl (.cons rfl (.cons rfl (.cons rfl (.cons rfl (.cons rfl (.cons rfl (.cons rfl (.cons rfl (.cons rfl .nil))))))))))) ⟨j + 1, w', _, _, _, rfl, hlt2, by rw [hts, zmp]; exact hF2.store w', rfl⟩
   ·have hje : j = l.length := by
     have h6 : ¬ ((j : Nat) : Int) < (((l.map fun w => ([.int .i64 (w : Nat)] : List AV)).length : Nat) : Int) := of_decide_eq_false h5
     rw [y07] at h6
     omega
    subst hje
    rw [y1k] at hF
    repeat (first | refine za7 ?_ | refine za5 ?_ | refine za4 ?_ | refine zc7 rfl ?_ | refine zbg ?_ | refine zac ?_)
    refine zdb ?_
    repeat (first | refine za0 rfl ?_ | refine za5 ?_ | refine za4 ?_ | refine zbl ?_ | refine zbf ?_ | refine za3 rfl ?_ | refine zb1 (op := .add) rfl rfl rfl ?_)
    rw [w1]
    exact zay (show nn - (i + 1) < nn - i by omega) (zaa (.cons rfl (.cons rfl (.cons rfl (.cons rfl (.cons rfl (.cons rfl .nil))))))) ⟨i + 1, v, _, _, _, rfl, hlt, by rw [hsucc]; exact hF, rfl⟩
  ·have hie : i = nn := by
    have h5 : ¬ ((i : Nat) : Int) < ((nn : Nat) : Int) := of_decide_eq_false h4
    omega
   subst hie
   repeat (first | refine za7 ?_ | refine za5 ?_ | refine za4 ?_ | refine zc7 rfl ?_ | refine zbg ?_ | refine zac ?_)
   refine zdb ?_
   repeat (first | refine za7 ?_ | refine za0 rfl ?_ | refine za4 ?_ | refine zbf ?_)
   refine zqn (id := 1) (sp := 1) (off := 0) rfl hF.out hF.nx1 rfl rfl ?_
   repeat (first | refine za3 rfl ?_)
   refine zb3 (id := 0) (sp := 0) (off := 0) (v := .agg [.int .i64 (i : Nat), v]) (vs := [.int .i64 (i : Nat), v]) rfl rfl rfl rfl hF.res rfl (by rw [List.all_cons, List.all_cons, hF.lst.cell.1]; rfl) ?_
   repeat (first | refine za5 ?_ | refine za4 ?_ | refine zao ?_ | refine za3 rfl ?_)
   refine zak ⟨.inr rfl, _, zwk ((zfg 2).trans rfl) (ze8 (sp := 0) (cs := [.int .i64 (i : Nat), v]) (by show Am.look 0 (zaz 0 _ hp) = _; rw [za1, if_pos rfl]; rfl) (show 0 < nx by have := hF.nx1; omega) rfl) ((zfg 3).trans rfl) ((zfg 4).trans rfl), ?_⟩
   have hv : Rv (zav (zo3 B i i)) v (zaz 0 (0, .cells [.int .i64 (i : Nat), v]) hp) nx := by
    rcases hF.lst with h2 | ⟨id, sp, e, hl, a, b⟩
    ·exact .inl h2
    ·exact .inr ⟨id, sp, e, by rw [za1, if_neg (by omega)]; exact hl, a, b⟩
   exact congrArg AV.tup (trip_eq (congrArg AV.agg (zjk rfl hv.view)) rfl rfl)
end Go.Proofs.Ytfbeableaihooaa
namespace Go.Proofs.Ytfbeableaihooaa.Sc
open Go Go.Am
def vsI (l : List Int) : AV := .vs (l.map fun z => [.int .i64 z])
theorem zei {D : List Int} {k : Nat} (hk : k < D.length) : (D.map fun z => ([.int .i64 z] : List AV))[((k : Nat) : Int).toNat]? = some [.int .i64 D[k]] := by
 rw [y11, y0f, y06 hk]
 rfl
theorem zcm : ∀ l : List Int, hasM.hasML (l.map (AV.int .i64)) = false
 | [] => rfl
 | b :: l => by
  have := zcm l
  simpa [hasM.hasML, hasM] using this
theorem ze3 (l : List Int) : (l.map (AV.int .i64)) = (l.map fun z => ([.int .i64 z] : List AV)).flatten := by
 induction l with
 | nil => rfl
 | cons z l ih => simpa using ih
theorem zna : ∀ l : List Int, (l.map (AV.int .i64)).all AV.isCell = true
 | [] => rfl
 | z :: l => by
  simp [AV.isCell]
theorem znb {l : List Int} : ∀ x ∈ (l.map fun z => ([.int .i64 z] : List AV)), x.length = 1 := fun x hx => by
 obtain ⟨s, _, rfl⟩ := y0o.1 hx
 rfl
theorem zh1 {S : AS} {d id sp len : Nat} {cap : Option Nat} {J : List AV} (a : List Int) (hn : a.length = len) (hl : Am.look id S.heap = some (sp, .cells (a.map (AV.int .i64) ++ J))) : S.view (d + 1) (.ms id sp 1 0 len cap) = vsI a := by
 subst hn
 have e : S.elems 1 (.ms id sp 1 0 a.length cap) = some (a.map fun z => ([.int .i64 z] : List AV)) := by
  obtain ⟨n, t, hp, nx, ck, mk⟩ := S
  exact zcr (ys := J) (cap := cap) (n := n) (nx := nx) (ck := ck) (mk := mk) (l := []) (hp := hp) (by rw [← ze3]; exact hl) (y07 ..) (fun x hx => by obtain ⟨s, _, rfl⟩ := y0o.1 hx; rfl)
 simp only [AS.view, e]
 unfold vsI
 congr 1
 rw [y26]
 apply y24
 intro s _
 cases d <;> rfl
theorem zd1 {S : AS} {d id sp len : Nat} {cap : Option Nat} (a : List Int) (hn : a.length = len) (hl : Am.look id S.heap = some (sp, .cells (a.map (AV.int .i64)))) : S.view (d + 1) (.ms id sp 1 0 len cap) = vsI a :=
 zh1 (J := []) a hn (by rw [y0r]; exact hl)
def zcs {α σ τ : Type} (step : σ → α → σ ⊕ τ) : List α → σ → σ ⊕ τ
 | [], s => .inl s
 | x :: xs, s => match step s x with
  | .inr t => .inr t
  | .inl s' => zcs step xs s'
def zfb {α σ τ : Type} (step : σ → α → σ ⊕ τ) (Pr : σ → α → Prop) : List α → σ → Prop
 | [], _ => True
 | x :: xs, s => Pr s x ∧ ∀ s', step s x = .inl s' → zfb step Pr xs s'
theorem zgo {α σ τ : Type} {step : σ → α → σ ⊕ τ} : ∀ (l m : List α) (s : σ), zcs step (l ++ m) s = match zcs step l s with
  | .inr t => .inr t
  | .inl s' => zcs step m s'
 | [], _, _ => rfl
 | x :: l, m, s => by
  rw [y2g, zcs, zcs]
  cases step s x with
  | inr t => rfl
  | inl s' => exact zgo l m s'
theorem zej {α σ τ : Type} {step : σ → α → σ ⊕ τ} {Pr : σ → α → Prop} : ∀ (l m : List α) (s : σ), zfb step Pr (l ++ m) s → zfb step Pr l s ∧ ∀ s', zcs step l s = .inl s' → zfb step Pr m s'
 | [], _, _, h => ⟨trivial, fun s' e => by injection e with e; subst e; exact h⟩
 | x :: l, m, s, ⟨h1, h2⟩ => by
  refine ⟨⟨h1, fun s' e => (zej l m s' (h2 s' e)).1⟩, fun s' e => ?_⟩
  rw [zcs] at e
  cases hs : step s x with
  | inr t => rw [hs] at e; cases e
  | inl s2 =>
   rw [hs] at e
   exact (zej l m s2 (h2 s2 hs)).2 s' e
section
variable {σ τ : Type} (M : Nat → Prop) (I : σ → HS → Prop) (J : τ → HS → Prop)
def Left (H : HS) (o : σ ⊕ τ) (v : AV) (H' : HS) : Prop :=
 Keep M H H' ∧ match o with
  | .inl s => v = .bool true ∧ I s H'
  | .inr t => v = .bool false ∧ J t H'
end
theorem Keep.mono {M M' : Nat → Prop} {H H' : HS} (h : Keep M H H') (hm : ∀ i, M i → M' i) : Keep M' H H' :=
 ⟨h.next, h.clk, fun i hi => h.look i fun h => hi (hm i h)⟩
theorem zjk {a b c d : AV} (h1 : a = c) (h2 : b = d) : [a, b] = [c, d] := by rw [h1, h2]
def allB (n : Int) : BitVec 64 := if n ≥ 64 then BitVec.allOnes 64 else (1#64 <<< n.toNat) - 1#64
def cUs (s : List (BitVec 64)) : List (List AV) := s.map fun x => [cU x]
theorem zh7 (s : List (BitVec 64)) : (cUs s).length = s.length := y07 ..
theorem cUs_get {s : List (BitVec 64)} {i : Nat} (h : i < s.length) : (cUs s)[((i : Nat) : Int).toNat]? = some [cU s[i]] := by
 rw [y11, cUs, y0f, y06 h]
 rfl
theorem cUs_getI {s : List (BitVec 64)} {z : Int} (_h0 : 0 ≤ z) (h : z.toNat < s.length) : (cUs s)[z.toNat]? = some [cU (s.getD z.toNat 0)] := by
 rw [cUs, y0f, y0c, y06 h]
 rfl
def cF (n : Int) (s : List (BitVec 64)) : AV := .agg [.int .i64 n, .vs (cUs s)]
def badU (n : Int) (x : BitVec 64) : Bool := x &&& ~~~ allB n != 0#64
def setC (n : Int) (s : List (BitVec 64)) : Int := if s.any (badU n) = true then 2 else 0
def chkF (n : Int) (s : List (BitVec 64)) : Int := if n < 0 then 2 else if n > 64 then 2 else if s.length > 64 then 5 else setC n s
theorem zww (n : Int) (x : BitVec 64) (s : List (BitVec 64)) : setC n (x :: s) = if badU n x = true then 2 else setC n s := by
 unfold setC
 rw [y2o]
 cases badU n x <;> rfl
def ordE (n : Int) : Int → List Int → Int
 | _, [] => 0
 | p, k :: l => if k < 0 then 2 else if k ≥ n then 2 else if k ≤ p then 9 else ordE n k l
def givE (n : Int) (s : List (BitVec 64)) (l : List Int) (m : Int) : Int := if chkF n s = 0 then ordE m (-1) l else chkF n s
def uni (s : List (BitVec 64)) (c : List Int) : BitVec 64 := c.foldl (fun a i => a ||| s.getD i.toNat 0) 0
theorem uni_snoc (s : List (BitVec 64)) (c : List Int) (z : Int) : uni s (c ++ [z]) = uni s c ||| s.getD z.toNat 0 := by
 unfold uni
 rw [y1t]
 rfl
theorem uni_take {s : List (BitVec 64)} {c : List Int} {i : Nat} (h : i < c.length) : uni s (c.take (i + 1)) = uni s (c.take i) ||| s.getD c[i].toNat 0 := by
 rw [y1x, y06 h]
 exact uni_snoc ..
def covB (n : Int) (s : List (BitVec 64)) (c : List Int) : Bool := uni s c == allB n
-- pneumatic/setcover.all
def ic39 : IC := .seq (.region [oM 2 (.mov (.c (.int .u64 0)))] none)
 (.seq (.seq (.region [oT 3 0,
  oM 4 (.bin .eql (.t 3) (.c (.int .i64 64)))] none)
 (.cond (.t 4) (.seq (.region [oM 2 (.mov (.c (.int .u64 18446744073709551615)))] none)
 (.ret))
 (.skip)))
 (.seq (.region [oT 5 0,
  oM 6 (.bin .shl (.c (.int .u64 1)) (.t 5)),
  oM 7 (.bin .sub (.t 6) (.c (.int .u64 1))),
  oT 2 7] none)
 (.ret)))
theorem fn39 : env0.fn 39 = some ⟨8, ic39, [.t 2]⟩ := by kernel_rfl
def b59_1 : IC := .seq (.region [oM 23 (.bin .lss (.t 22) (.t 21))] none)
 (.seq (.cond (.t 23) (.skip)
 (.exit 1))
 (.seq (.block 2 (.seq (.region [oM 24 (.idxs 1 (.t 20) (.t 22)),
  oN 25 24,
  oT 4 25] none)
 (.seq (.region [oT 26 4,
  oF 27 0 1,
  oN 28 27,
  oM 29 (.call (.c (.fn 39 [] [])) [(.t 28)]),
  oM 30 (.bin .andNot (.t 26) (.t 29)),
  oM 31 (.bin .neq (.t 30) (.c (.int .u64 0)))] none)
 (.cond (.t 31) (.seq (.region [oM 2 (.mov (.c (.int .i64 2)))] none)
 (.ret))
 (.skip)))))
 (.region [oM 32 (.bin .add (.t 22) (.c (.int .i64 1))),
  oT 22 32] none)))
-- pneumatic/setcover.Check
def ic59 : IC := .seq (.region [oM 1 (.box (.t 0)),
  oM 2 (.mov (.c (.int .i64 0)))] none)
 (.seq (.block 0 (.seq (.region [oF 6 0 1,
  oN 7 6,
  oM 8 (.bin .lss (.t 7) (.c (.int .i64 0))),
  oT 9 8,
  ⟨(some 10), .faddr 0 (.t 1), some (9, false)⟩,
  ⟨(some 11), .load none (.t 10), some (9, false)⟩,
  ⟨(some 12), .bin .gtr (.t 11) (.c (.int .i64 64)), some (9, false)⟩,
  oM 13 (.pick (.t 9) (.c (.bool true)) (.t 12)),
  oT 5 13] none)
 (.cond (.t 5) (.seq (.region [oM 2 (.mov (.c (.int .i64 2)))] none)
 (.ret))
 (.seq (.region [oF 15 1 1,
  oN 16 15,
  oM 17 (.len false (.t 16)),
  oM 18 (.bin .gtr (.t 17) (.c (.int .i64 64))),
  oT 14 18] none)
 (.cond (.t 14) (.seq (.region [oM 2 (.mov (.c (.int .i64 5)))] none)
 (.ret))
 (.skip))))))
 (.seq (.seq (.region [oF 19 1 1,
  oN 20 19,
  oM 21 (.len false (.t 20)),
  oM 22 (.mov (.c (.int .i64 0)))] none)
 (.block 1 (.loop b59_1)))
 (.seq (.region [oM 2 (.mov (.c (.int .i64 0)))] none)
 (.ret))))
theorem fn59 : env0.fn 59 = some ⟨33, ic59, [.t 2]⟩ := by kernel_rfl
theorem all43 {n : Int} (h0 : 0 ≤ n) (h1 : n ≤ 64) : PF Try.prog 39 [.int .i64 n] (cU (allB n)) := by
 obtain ⟨m, rfl⟩ : ∃ m : Nat, n = (m : Int) := ⟨n.toNat, by omega⟩
 refine zb0 env0_ok fn39 [(0, .int .i64 (m : Nat))] (by show 1 ≤ 8; decide) rfl fun w0 N0 => ?_
 unfold ic39
 repeat (first | refine za7 ?_ | refine za0 rfl ?_ | refine za5 ?_ | refine za4 ?_ | refine za3 rfl ?_)
 refine zax rfl rfl rfl (fun h => ?_) fun h => ?_
 ·have h : (m : Int) = 64 := by simpa using h
  repeat (first | refine za7 ?_ | refine za0 rfl ?_ | refine za5 ?_ | refine za4 ?_ | refine zc8 rfl ?_ | refine zao ?_ | refine za9 ?_ | refine za3 rfl ?_)
  refine zak ⟨.inr rfl, _, rfl, ?_⟩
  show AV.int .u64 18446744073709551615 = cU (allB m)
  unfold allB
  rw [if_pos (by omega)]
  rfl
 ·have h : ¬ (m : Int) = 64 := by simpa using h
  repeat (first | refine za7 ?_ | refine za0 rfl ?_ | refine za5 ?_ | refine za4 ?_ | refine zaf ?_ | refine zc7 rfl ?_ | refine za3 rfl ?_)
  refine zb1 rfl rfl (zpx (1#64) (kd := .i64) (n := m) (by omega)) ?_
  refine zb1 rfl rfl (bin_subU _ (1#64)) ?_
  repeat (first | refine za5 ?_ | refine za4 ?_ | refine zao ?_ | refine za3 rfl ?_)
  refine zak ⟨.inr rfl, _, rfl, ?_⟩
  show cU _ = cU (allB m)
  unfold allB
  rw [if_neg (by omega)]
  rfl
theorem zl4 {n : Int} {s : List (BitVec 64)} (h : n < 0) : chkF n s = 2 := by unfold chkF; rw [if_pos h]
theorem zl3 {n : Int} {s : List (BitVec 64)} (h : n > 64) : chkF n s = 2 := by unfold chkF; rw [if_neg (by omega), if_pos h]
theorem zhy {n : Int} {s : List (BitVec 64)} (h0 : ¬ n < 0) (h1 : ¬ n > 64) (h : s.length > 64) : chkF n s = 5 := by unfold chkF; rw [if_neg h0, if_neg h1, if_pos h]
theorem chk_set {n : Int} {s : List (BitVec 64)} (h0 : ¬ n < 0) (h1 : ¬ n > 64) (h : ¬ s.length > 64) : chkF n s = setC n s := by unfold chkF; rw [if_neg h0, if_neg h1, if_neg h]
theorem zwx {n : Int} {s : List (BitVec 64)} {i : Nat} (h : i < s.length) : setC n (s.drop i) = if badU n s[i] = true then 2 else setC n (s.drop (i + 1)) := by
 rw [y1n h, zww]
set_option maxHeartbeats 1000000 in
theorem check37 (n : Int) (s : List (BitVec 64)) : PF Try.prog 59 [cF n s] (.int .i64 (chkF n s)) := by
 have hcl := zh7 s
 refine zb0 env0_ok fn59 [(0, .agg [.int .i64 n, .vs (cUs s)])] (by show 1 ≤ 33; decide) rfl fun w0 N0 => ?_
 unfold ic59
 refine zsr rfl (zcz rfl rfl (za3 rfl (onu ?_)))
 refine zbm [] [(0, 0, [.int .i64 n, .vs (cUs s)])] [(1, .vptr [.int .i64 n, .vs (cUs s)])] rfl (.cons rfl rfl .nil) .nil (.cons rfl (.fptr rfl rfl) .nil) ?_
 repeat (first | refine za7 ?_ | refine za0 rfl ?_ | refine zab ?_ | refine zad rfl rfl ?_ | refine zai rfl rfl rfl ?_)
 refine zax rfl rfl rfl (fun h => ?_) fun h => ?_
 ·rw [zl4 (of_decide_eq_true h)]
  repeat (first | refine za7 ?_ | refine za0 rfl ?_ | refine za5 ?_ | refine za4 ?_ | refine zc8 rfl ?_ | refine zao ?_ | refine za9 ?_ | refine zaj ?_ | refine zkk rfl rfl ?_ | refine za3 rfl ?_ | refine zbk rfl rfl ?_)
  exact zak ⟨.inr rfl, _, rfl, rfl⟩
 have h0 : ¬ n < 0 := of_decide_eq_false h
 repeat (first | refine zh4 rfl ?_ | refine za3 rfl ?_ | refine zad rfl rfl ?_ | refine zai rfl rfl rfl ?_)
 refine zax rfl rfl rfl (fun h => ?_) fun h => ?_
 ·rw [zl3 (of_decide_eq_true h)]
  repeat (first | refine za7 ?_ | refine za0 rfl ?_ | refine za5 ?_ | refine za4 ?_ | refine zc8 rfl ?_ | refine zao ?_ | refine za9 ?_ | refine zaj ?_ | refine za3 rfl ?_ | refine zbb rfl rfl ?_)
  exact zak ⟨.inr rfl, _, rfl, rfl⟩
 have h1 : ¬ n > 64 := of_decide_eq_false h
 repeat (first | refine za7 ?_ | refine za0 rfl ?_ | refine za5 ?_ | refine za4 ?_ | refine zc7 rfl ?_ | refine za3 rfl ?_ | refine zad rfl rfl ?_ | refine zai rfl rfl rfl ?_ | refine zbb rfl rfl ?_ | refine zbo rfl rfl ?_)
 refine zax rfl rfl rfl (fun h => ?_) fun h => ?_
 ·have h : (((cUs s).length : Nat) : Int) > 64 := of_decide_eq_true h
  rw [zhy h0 h1 (by omega)]
  repeat (first | refine za7 ?_ | refine za0 rfl ?_ | refine za5 ?_ | refine za4 ?_ | refine zc8 rfl ?_ | refine zao ?_ | refine za9 ?_ | refine zaj ?_ | refine za3 rfl ?_)
  exact zak ⟨.inr rfl, _, rfl, rfl⟩
 have h2 : ¬ (((cUs s).length : Nat) : Int) > 64 := of_decide_eq_false h
 rw [chk_set h0 h1 (by omega)]
 have pA := all43 (n := n) (by omega) (by omega)
 repeat (first | refine za7 ?_ | refine za0 rfl ?_ | refine za5 ?_ | refine za4 ?_ | refine zbl ?_ | refine zab ?_ | refine zaf ?_ | refine zc7 rfl ?_ | refine za3 rfl ?_ | refine zad rfl rfl ?_ | refine zai rfl rfl rfl ?_ | refine zbo rfl rfl ?_)
 refine zbv (fun mm S => ∃ i, mm = s.length - i ∧ i ≤ s.length ∧ setC n s = setC n (s.drop i) ∧ S = st 33 [(1, .vptr [.int .i64 n, .vs (cUs s)]), (20, .vs (cUs s)), (21, .int .i64 (cUs s).length), (22, .int .i64 (i : Nat))] [] 0 1) s.length
  (zaa (.cons rfl (.cons rfl (.cons rfl (.cons rfl .nil))))) ⟨0, rfl, y12 _, rfl, rfl⟩ ?_
 rintro mm S ⟨i, rfl, hi, hall, rfl⟩
 rw [hall]
 clear hall
 unfold b59_1
 repeat (first | refine za7 ?_ | refine za0 rfl ?_)
 refine zax rfl rfl rfl (fun h3 => ?_) fun h3 => ?_
 ·have hlt : i < s.length := by
   have : ((i : Nat) : Int) < ((cUs s).length : Nat) := of_decide_eq_true h3
   omega
  have hg := cUs_get hlt
  rw [zwx hlt]
  repeat (first | refine za7 ?_ | refine za0 rfl ?_ | refine za5 ?_ | refine za4 ?_ | refine zab ?_ | refine zaf ?_ | refine zc8 rfl ?_ | refine za3 rfl ?_ | refine zad rfl rfl ?_ | refine zai rfl rfl rfl ?_ | refine zb7 rfl rfl (by omega) (by assumption) rfl ?_)
  refine zb9 rfl rfl pA noC ?_
  repeat (first | refine zb1 rfl rfl (zrr _ _) ?_)
  refine zax rfl rfl (bin_neqU _ (0#64)) (fun h => ?_) fun h => ?_
  ·rw [if_pos (show badU n s[i] = true from h)]
   repeat (first | refine za7 ?_ | refine za0 rfl ?_ | refine za5 ?_ | refine za4 ?_ | refine zc8 rfl ?_ | refine zao ?_ | refine za9 ?_ | refine zaj ?_ | refine za3 rfl ?_)
   refine zer ?_
   repeat (first | refine za9 ?_ | refine zaj ?_)
   exact zak ⟨.inr rfl, _, rfl, rfl⟩
  ·rw [if_neg (show ¬ badU n s[i] = true from fun h6 => Bool.noConfusion (h.symm.trans h6))]
   repeat (first | refine za0 rfl ?_ | refine za5 ?_ | refine za4 ?_ | refine zbl ?_ | refine zaf ?_ | refine zc7 rfl ?_ | refine za3 rfl ?_ | refine zb1 (op := .add) rfl rfl rfl ?_)
   rw [zam i (by omega)]
   exact zay (show s.length - (i + 1) < s.length - i by omega) (zaa (.cons rfl (.cons rfl (.cons rfl (.cons rfl .nil))))) ⟨i + 1, rfl, hlt, rfl, rfl⟩
 ·have hi2 : i = s.length := by
   have : ¬ ((i : Nat) : Int) < ((cUs s).length : Nat) := of_decide_eq_false h3
   omega
  subst hi2
  rw [List.drop_length]
  repeat (first | refine za7 ?_ | refine za5 ?_ | refine za4 ?_ | refine zc7 rfl ?_ | refine zbg ?_ | refine zac ?_)
  refine zdb ?_
  repeat (first | refine za7 ?_ | refine za0 rfl ?_ | refine za5 ?_ | refine za4 ?_ | refine zao ?_ | refine zbf ?_ | refine za3 rfl ?_)
  exact zak ⟨.inr rfl, _, rfl, rfl⟩
def b38_0 : IC := .seq (.region [oM 11 (.bin .lss (.t 10) (.t 9))] none)
 (.seq (.cond (.t 11) (.skip)
 (.exit 0))
 (.seq (.block 1 (.seq (.region [oM 12 (.idxs 1 (.t 8) (.t 10)),
  oN 13 12,
  oT 7 13] none)
 (.region [oT 14 5,
  oF 15 1 2,
  oN 16 15,
  oT 17 7,
  oM 18 (.idxs 1 (.t 16) (.t 17)),
  oN 19 18,
  oM 20 (.bin .or (.t 14) (.t 19)),
  oT 5 20] none)))
 (.region [oM 21 (.bin .add (.t 10) (.c (.int .i64 1))),
  oT 10 21] none)))
-- pneumatic/setcover.union
def ic38 : IC := .seq (.region [oM 2 (.box (.t 0)),
  oM 4 (.mov (.c (.int .u64 0)))] none)
 (.seq (.region [oM 5 (.mov (.c (.int .u64 0)))] none)
 (.seq (.seq (.region [oT 8 1,
  oM 9 (.len false (.t 8)),
  oM 10 (.mov (.c (.int .i64 0)))] none)
 (.block 0 (.loop b38_0)))
 (.seq (.region [oT 22 5,
  oT 4 22] none)
 (.ret))))
theorem fn38 : env0.fn 38 = some ⟨23, ic38, [.t 4]⟩ := by kernel_rfl
theorem union57 (n : Int) (s : List (BitVec 64)) (c : List Int) (hl : c.length ≤ 1000000) (hc : ∀ z ∈ c, 0 ≤ z ∧ z < s.length) : PF Try.prog 38 [cF n s, vsI c] (cU (uni s c)) := by
 have hvl : (c.map fun z => ([.int .i64 z] : List AV)).length = c.length := y07 ..
 refine zb0 env0_ok fn38 [(0, cF n s), (1, vsI c)] (by show 2 ≤ 23; decide) rfl fun w0 N0 => ?_
 unfold ic38
 refine zsr rfl (zcz (cs := [.int .i64 n, .vs (cUs s)]) rfl rfl (za3 rfl (onu ?_)))
 refine zbm [] [(0, 0, [.int .i64 n, .vs (cUs s)])] [(1, vsI c), (2, .vptr [.int .i64 n, .vs (cUs s)])] rfl (.cons rfl rfl .nil) .nil (.cons rfl (.same rfl) (.cons rfl (.fptr rfl rfl) .nil)) ?_
 repeat (first | refine za7 ?_ | refine za0 rfl ?_ | refine za5 ?_ | refine za4 ?_ | refine zab ?_ | refine za3 rfl ?_ | refine zbo rfl rfl ?_)
 unfold vsI
 refine zbv (fun mm S => ∃ i, mm = c.length - i ∧ i ≤ c.length ∧ S = st 23 [(2, .vptr [.int .i64 n, .vs (cUs s)]), (5, cU (uni s (c.take i))), (8, vsI c), (9, .int .i64 c.length), (10, .int .i64 (i : Nat))] [] 0 1) c.length
  (zaa (.cons rfl (.cons rfl (.cons rfl (.cons (by rw [← hvl]; rfl) (.cons rfl .nil)))))) ⟨0, rfl, y12 _, rfl⟩ ?_
 rintro mm S ⟨i, rfl, hi, rfl⟩
 unfold b38_0 vsI
 repeat (first | refine za7 ?_ | refine za0 rfl ?_)
 refine zax rfl rfl rfl (fun h3 => ?_) fun h3 => ?_
 ·have hlt : i < c.length := y1i.1 (of_decide_eq_true h3)
  have hg := zei hlt
  obtain ⟨z0, z1⟩ := hc _ (y0y hlt)
  have hg2 := cUs_getI z0 (s := s) (by omega)
  repeat (first | refine zb1 rfl rfl (bin_or _ _) ?_ | refine za7 ?_ | refine za0 rfl ?_ | refine za5 ?_ | refine za4 ?_ | refine zbl ?_ | refine zab ?_ | refine zaf ?_ | refine zc8 rfl ?_ | refine za3 rfl ?_ | refine zad rfl rfl ?_ | refine zai rfl rfl rfl ?_ | refine zb1 (op := .add) rfl rfl rfl ?_ | refine zb7 rfl rfl (by omega) (by assumption) rfl ?_)
  rw [zam i (by omega)]
  exact zay (show c.length - (i + 1) < c.length - i by omega) (zaa (.cons rfl (.cons rfl (.cons rfl (.cons rfl (.cons rfl .nil)))))) ⟨i + 1, rfl, hlt, by rw [uni_take hlt]⟩
 ·have hi2 : i = c.length := by
   have : ¬ i < c.length := fun h => of_decide_eq_false h3 (y1i.2 h)
   omega
  subst hi2
  rw [y1k]
  repeat (first | refine za7 ?_ | refine za5 ?_ | refine za4 ?_ | refine zc7 rfl ?_ | refine zbg ?_ | refine zac ?_)
  refine zdb ?_
  repeat (first | refine za7 ?_ | refine za0 rfl ?_ | refine za5 ?_ | refine za4 ?_ | refine zao ?_ | refine zbf ?_ | refine za3 rfl ?_)
  exact zak ⟨.inr rfl, _, rfl, rfl⟩
theorem zit {n : Int} {s : List (BitVec 64)} (h : chkF n s = 0) : 0 ≤ n ∧ n ≤ 64 ∧ s.length ≤ 64 ∧ ∀ x ∈ s, badU n x = false := by
 unfold chkF setC at h
 split at h
 ·exact absurd h (by decide)
 split at h
 ·exact absurd h (by decide)
 split at h
 ·exact absurd h (by decide)
 split at h
 ·exact absurd h (by decide)
 rename_i h4
 refine ⟨by omega, by omega, by omega, fun x hx => ?_⟩
 cases hb : badU n x with
 | false => rfl
 | true => exact absurd (y2v.2 ⟨x, hx, hb⟩) h4
theorem zuy {n : Int} {s : List (BitVec 64)} {l : List Int} {m : Int} (h : givE n s l m = 0) : chkF n s = 0 ∧ ordE m (-1) l = 0 := by
 unfold givE at h
 split at h
 ·exact ⟨by assumption, h⟩
 ·rename_i hc; exact absurd h hc
-- slices.Clone[[]int,int]
def ic62 : IC := .seq (.region [oM 2 (.mov (.c (.nils)))] none)
 (.seq (.seq (.region [oT 3 0,
  oM 4 (.nilq false (.t 3))] none)
 (.cond (.t 4) (.seq (.region [oM 2 (.mov (.c (.nils)))] none)
 (.ret))
 (.skip)))
 (.seq (.region [oM 5 (.bslice 1 0 [] []),
  oT 6 0,
  oM 7 (.append 1 8 [.int .i64 0] (.t 5) (.t 6)),
  oT 2 7] none)
 (.ret)))
theorem fn62 : env0.fn 62 = some ⟨8, ic62, [.t 2]⟩ := by kernel_rfl
theorem PFn_nil {P : Program} {f : FuncId} {args : List AV} (h : PF P f args (.vs [])) : PFn P f args (.vs []) :=
 ⟨h.1, fun ro w us hg ha => (h.2 ro w us hg ha).mono fun e w' ⟨u, e1, e2, e3⟩ => ⟨u, e1, e2, by
  cases e3 with
  | vs us hl hcap ha hsz hc hv => exact .vs (b := 0) (off := 0) us hl hcap (fun h => absurd rfl h) (fun x hx => hsz x hx) (fun i j e x he => by simp at he) (fun i j e x he => by simp at he)⟩⟩
theorem clone45 (c : List Int) (hl : c.length ≤ 1000000) : PFn Try.prog 62 [vsI c] (vsI c) := by
 cases c with
 | nil =>
  refine PFn_nil ?_
  refine zb0 env0_ok fn62 [(0, vsI [])] (by show 1 ≤ 8; decide) rfl fun w0 N0 => ?_
  unfold ic62
  refine zsr rfl (za3 rfl (onu (za7 (zsr rfl (za3 rfl ?_)))))
  refine o_nilq (es := []) rfl fun b => ?_
  cases b
  ·repeat (first | refine za7 ?_ | refine za0 rfl ?_ | refine za5 ?_ | refine za4 ?_ | refine zbl ?_ | refine zab ?_ | refine zaf ?_ | refine zc8 rfl ?_ | refine zc7 rfl ?_ | refine zbg ?_ | refine zao ?_ | refine zbf ?_ | refine zac ?_ | refine zby rfl ?_ | refine za9 ?_ | refine zaj ?_ | refine zh4 rfl ?_ | refine zkk rfl rfl ?_ | refine o_gt rfl ?_ | refine za3 rfl ?_ | refine zad rfl rfl ?_ | refine zb2 rfl rfl rfl rfl ?_ | refine zb3 rfl rfl rfl rfl rfl rfl rfl ?_ | refine zar rfl ?_ | refine zai rfl rfl rfl ?_ | refine zbj rfl rfl rfl ?_ | refine zdj rfl rfl rfl rfl ?_ | refine zba ?_ | refine zbk rfl rfl ?_ | refine zbb rfl rfl ?_ | refine zmd rfl rfl ?_ | refine zbo rfl rfl ?_ | refine zbz rfl rfl ?_ | refine zb6 rfl rfl ?_ | refine zcz rfl rfl ?_ | refine zdk rfl rfl rfl ?_ | refine zfh rfl rfl ?_ | refine zdu rfl rfl rfl rfl ?_ | refine zdi rfl rfl rfl rfl ?_ | refine zee rfl rfl rfl rfl ?_ | refine zhp rfl rfl ?_ | refine ze5 rfl rfl ?_ | refine zb5 rfl rfl ?_ | refine zhs ?_ | refine zdf env0_ok rfl rfl rfl ?_ | refine zb1 (op := .add) rfl rfl rfl ?_ | refine zb1 (op := .sub) rfl rfl rfl ?_ | refine zhr rfl rfl rfl ?_ | refine zhq rfl rfl rfl ?_ | refine zf5 rfl rfl rfl ?_ | refine zd5 rfl rfl rfl ?_ | refine zb7 rfl rfl (by omega) (by assumption) rfl ?_ | refine zbj rfl rfl (decide_eq_true ⟨by omega, by omega⟩) ?_ | refine zbe rfl rfl (by omega) (by omega) ?_ | refine zed rfl rfl rfl ?_ | refine zhu rfl ?_ | refine zht rfl ?_)
   exact zak ⟨.inr rfl, _, rfl, rfl⟩
  ·repeat (first | refine za7 ?_ | refine za0 rfl ?_ | refine za5 ?_ | refine za4 ?_ | refine zbl ?_ | refine zab ?_ | refine zaf ?_ | refine zc8 rfl ?_ | refine zc7 rfl ?_ | refine zbg ?_ | refine zao ?_ | refine zbf ?_ | refine zac ?_ | refine zby rfl ?_ | refine za9 ?_ | refine zaj ?_ | refine zh4 rfl ?_ | refine zkk rfl rfl ?_ | refine o_gt rfl ?_ | refine za3 rfl ?_ | refine zad rfl rfl ?_ | refine zb2 rfl rfl rfl rfl ?_ | refine zb3 rfl rfl rfl rfl rfl rfl rfl ?_ | refine zar rfl ?_ | refine zai rfl rfl rfl ?_ | refine zbj rfl rfl rfl ?_ | refine zdj rfl rfl rfl rfl ?_ | refine zba ?_ | refine zbk rfl rfl ?_ | refine zbb rfl rfl ?_ | refine zmd rfl rfl ?_ | refine zbo rfl rfl ?_ | refine zbz rfl rfl ?_ | refine zb6 rfl rfl ?_ | refine zcz rfl rfl ?_ | refine zdk rfl rfl rfl ?_ | refine zfh rfl rfl ?_ | refine zdu rfl rfl rfl rfl ?_ | refine zdi rfl rfl rfl rfl ?_ | refine zee rfl rfl rfl rfl ?_ | refine zhp rfl rfl ?_ | refine ze5 rfl rfl ?_ | refine zb5 rfl rfl ?_ | refine zhs ?_ | refine zdf env0_ok rfl rfl rfl ?_ | refine zb1 (op := .add) rfl rfl rfl ?_ | refine zb1 (op := .sub) rfl rfl rfl ?_ | refine zhr rfl rfl rfl ?_ | refine zhq rfl rfl rfl ?_ | refine zf5 rfl rfl rfl ?_ | refine zd5 rfl rfl rfl ?_ | refine zb7 rfl rfl (by omega) (by assumption) rfl ?_ | refine zbj rfl rfl (decide_eq_true ⟨by omega, by omega⟩) ?_ | refine zbe rfl rfl (by omega) (by omega) ?_ | refine zed rfl rfl rfl ?_ | refine zhu rfl ?_ | refine zht rfl ?_)
   exact zak ⟨.inr rfl, _, rfl, rfl⟩
 | cons x c =>
  have hcl : ((x :: c).map fun z => ([.int .i64 z] : List AV)).length = (x :: c).length := y07 ..
  refine PFn_of_Z env0_ok fn62 [(0, vsI (x :: c))] (by show 1 ≤ 8; decide) rfl fun w0 N0 => ?_
  unfold ic62
  refine zsr rfl (za3 rfl (onu (za7 (zsr rfl (za3 rfl ?_)))))
  refine zdl (v := .bool false) (by rfl) ?_
  repeat (first | refine za7 ?_ | refine za0 rfl ?_ | refine za5 ?_ | refine za4 ?_ | refine zbl ?_ | refine zab ?_ | refine zaf ?_ | refine zc8 rfl ?_ | refine zc7 rfl ?_ | refine zbg ?_ | refine zao ?_ | refine zbf ?_ | refine zac ?_ | refine zby rfl ?_ | refine za9 ?_ | refine zaj ?_ | refine zh4 rfl ?_ | refine zkk rfl rfl ?_ | refine o_gt rfl ?_ | refine za3 rfl ?_ | refine zad rfl rfl ?_ | refine zb2 rfl rfl rfl rfl ?_ | refine zb3 rfl rfl rfl rfl rfl rfl rfl ?_ | refine zar rfl ?_ | refine zai rfl rfl rfl ?_ | refine zbj rfl rfl rfl ?_ | refine zdj rfl rfl rfl rfl ?_ | refine zba ?_ | refine zbk rfl rfl ?_ | refine zbb rfl rfl ?_ | refine zmd rfl rfl ?_ | refine zbo rfl rfl ?_ | refine zbz rfl rfl ?_ | refine zb6 rfl rfl ?_ | refine zcz rfl rfl ?_ | refine zdk rfl rfl rfl ?_ | refine zfh rfl rfl ?_ | refine zdu rfl rfl rfl rfl ?_ | refine zdi rfl rfl rfl rfl ?_ | refine zee rfl rfl rfl rfl ?_ | refine zhp rfl rfl ?_ | refine ze5 rfl rfl ?_ | refine zb5 rfl rfl ?_ | refine zhs ?_ | refine zdf env0_ok rfl rfl rfl ?_ | refine zb1 (op := .add) rfl rfl rfl ?_ | refine zb1 (op := .sub) rfl rfl rfl ?_ | refine zhr rfl rfl rfl ?_ | refine zhq rfl rfl rfl ?_ | refine zf5 rfl rfl rfl ?_ | refine zd5 rfl rfl rfl ?_ | refine zb7 rfl rfl (by omega) (by assumption) rfl ?_ | refine zbj rfl rfl (decide_eq_true ⟨by omega, by omega⟩) ?_ | refine zbe rfl rfl (by omega) (by omega) ?_ | refine zed rfl rfl rfl ?_ | refine zhu rfl ?_ | refine zht rfl ?_)
  refine znj ((x :: c).map fun z => [.int .i64 z]) rfl rfl (elems_vs znb) (by rw [hcl]; exact y2x _) (by rw [← ze3]; exact zna _) (by decide) zaq (by rw [hcl]; omega) ?_
  repeat (first | refine za7 ?_ | refine za0 rfl ?_ | refine za5 ?_ | refine za4 ?_ | refine zbl ?_ | refine zab ?_ | refine zaf ?_ | refine zc8 rfl ?_ | refine zc7 rfl ?_ | refine zbg ?_ | refine zao ?_ | refine zbf ?_ | refine zac ?_ | refine zby rfl ?_ | refine za9 ?_ | refine zaj ?_ | refine zh4 rfl ?_ | refine zkk rfl rfl ?_ | refine o_gt rfl ?_ | refine za3 rfl ?_ | refine zad rfl rfl ?_ | refine zb2 rfl rfl rfl rfl ?_ | refine zb3 rfl rfl rfl rfl rfl rfl rfl ?_ | refine zar rfl ?_ | refine zai rfl rfl rfl ?_ | refine zbj rfl rfl rfl ?_ | refine zdj rfl rfl rfl rfl ?_ | refine zba ?_ | refine zbk rfl rfl ?_ | refine zbb rfl rfl ?_ | refine zmd rfl rfl ?_ | refine zbo rfl rfl ?_ | refine zbz rfl rfl ?_ | refine zb6 rfl rfl ?_ | refine zcz rfl rfl ?_ | refine zdk rfl rfl rfl ?_ | refine zfh rfl rfl ?_ | refine zdu rfl rfl rfl rfl ?_ | refine zdi rfl rfl rfl rfl ?_ | refine zee rfl rfl rfl rfl ?_ | refine zhp rfl rfl ?_ | refine ze5 rfl rfl ?_ | refine zb5 rfl rfl ?_ | refine zhs ?_ | refine zdf env0_ok rfl rfl rfl ?_ | refine zb1 (op := .add) rfl rfl rfl ?_ | refine zb1 (op := .sub) rfl rfl rfl ?_ | refine zhr rfl rfl rfl ?_ | refine zhq rfl rfl rfl ?_ | refine zf5 rfl rfl rfl ?_ | refine zd5 rfl rfl rfl ?_ | refine zb7 rfl rfl (by omega) (by assumption) rfl ?_ | refine zbj rfl rfl (decide_eq_true ⟨by omega, by omega⟩) ?_ | refine zbe rfl rfl (by omega) (by omega) ?_ | refine zed rfl rfl rfl ?_ | refine zhu rfl ?_ | refine zht rfl ?_)
  refine zak ⟨.inr rfl, _, rfl, ?_⟩
  refine OwnR.ints (x :: c) hcl.symm ?_
  show Am.look 1 ((1, 1, _) :: _) = _
  rw [← ze3]
  rfl
theorem zlw {P : Program} {w0 : World} {N0 n nx ck : Nat} {mk : List (Nat × Nat)} {md : Md} {l : List (Nat × AV)} {hp : List (Nat × Nat × AObj)} {k : List Fr} {Q : Exit → AS → Prop} {ios : List Opr} {pf : Kn} {d sz bytes : Nat} {z : List AV} {s x : Arg} {xv : AV} (es : List (List AV)) {id sp len c : Nat} {cs : List AV} (hs : zaw s l = some (.ms id sp sz 0 len (some c))) (hx : zaw x l = some xv) (he : (st n l hp nx ck mk).elems sz xv = some es) (hne : es.length ≠ 0) (hc : es.flatten.all AV.isCell = true) (hb : bytes ≤ 16777216) (hlk : Am.look id hp = some (sp, .cells cs))
  (h0 : len * sz ≤ cs.length) (h2 : len + es.length ≤ 1048576) (h3 : c < len + es.length) (go : Om P w0 N0 md pf ios (st n ((d, .ms nx ck sz 0 (len + es.length) none) :: l) ((nx, ck, .cells (cs.take (len * sz) ++ es.flatten)) :: hp) (nx + 1) (ck + 1) mk) k Q)
  (hxo : Ops pf (st n l hp nx ck mk) (.append sz bytes z s x) := by first | exact fun _ _ _ _ _ _ _ => rfl | exact apOk rfl rfl | exact zp8 rfl) :
  Om P w0 N0 md pf (⟨some d, .append sz bytes z s x, none⟩ :: ios) (st n l hp nx ck mk) k Q := by
 have hi : iop (st n l hp nx ck mk) (.append sz bytes z s x) = some (.ms nx ck sz 0 (len + es.length) none, st n l ((nx, ck, .cells (cs.take (len * sz) ++ es.flatten)) :: hp) (nx + 1) (ck + 1) mk) := by
  simp only [iop, zal, hs, hx, he]
  unfold zbi
  rw [if_neg hne, if_pos ⟨hc, hb⟩]
  simp only [show (st n l hp nx ck mk).heap = hp from rfl, hlk]
  rw [if_pos ⟨trivial, trivial, by omega, h2⟩]
  rw [if_neg (by omega), y2t]
  rfl
 exact zdl hi go hxo
def asc (n : Nat) : Nat → Nat → List (List Int)
 | 0, _ => [[]]
 | k + 1, f => (List.range' f (n - f)).flatMap fun i : Nat => (asc n k (i + 1)).map fun c => ((i : Nat) : Int) :: c
theorem ztg {n : Nat} : ∀ {k f : Nat}, n < f + k → f ≤ n → asc n k f = []
 | 0, f, h, h2 => by omega
 | k + 1, f, h, h2 => by
  rw [asc, List.flatMap_eq_nil_iff]
  intro i hi
  rw [y2i] at hi
  rw [ztg (k := k) (f := i + 1) (by omega) (by omega)]
  rfl
def ascR (n k i : Nat) : List (List Int) := (List.range' i (n - i)).flatMap fun j : Nat => (asc n k (j + 1)).map fun c => (j : Int) :: c
theorem asc_succ (n k f : Nat) : asc n (k + 1) f = ascR n k f := rfl
theorem ztf {n k i : Nat} (h : i < n) : ascR n k i = ((asc n k (i + 1)).map fun c => ((i : Nat) : Int) :: c) ++ ascR n k (i + 1) := by
 unfold ascR
 rw [show n - i = (n - (i + 1)) + 1 by omega, List.range'_succ, List.flatMap_cons]
theorem ascR_nil {n k i : Nat} (h : n < i + k + 1) : ascR n k i = [] := by
 unfold ascR
 rw [List.flatMap_eq_nil_iff]
 intro j hj
 rw [y2i] at hj
 rw [ztg (by omega) (by omega)]
 rfl
def beh (vs : List Int) (L : List (List Int)) : List (List Int) := L.map fun c => vs ++ c
theorem beh_cons (vs : List Int) (i : Int) (L : List (List Int)) : beh vs (L.map fun c => i :: c) = beh (vs ++ [i]) L := by
 unfold beh
 rw [y26]
 refine y24 fun c _ => ?_
 show vs ++ i :: c = vs ++ [i] ++ c
 simp
theorem beh_app (vs : List Int) (A B : List (List Int)) : beh vs (A ++ B) = beh vs A ++ beh vs B := y16 ..
def zjz (vs : List Int) (X : List AV) : List AV := vs.map (AV.int .i64) ++ X
theorem room_len (vs : List Int) (X : List AV) : (zjz vs X).length = vs.length + X.length := by
 unfold zjz
 rw [y0k, y07]
theorem room_set {vs : List Int} {x : AV} {X : List AV} (i : Int) : setAt (vs.length * 1) (zjz vs (x :: X)) [AV.int .i64 i] = zjz (vs ++ [i]) X := by
 unfold setAt zjz
 have h : (vs.map (AV.int .i64)).length = vs.length * 1 := by rw [y07, Nat.mul_one]
 rw [← h, List.take_left, y16, y19, y19]
 congr 1
 rw [y1a, List.drop_append, List.drop_eq_nil_of_le (by omega)]
 simp
theorem zwl {vs : List Int} {X : List AV} : (zjz vs X).take (vs.length * 1) = vs.map (AV.int .i64) := by
 unfold zjz
 have h : (vs.map (AV.int .i64)).length = vs.length * 1 := by rw [y07, Nat.mul_one]
 rw [← h, List.take_left]
-- pneumatic/setcover.choices
def ic37 : IC := .seq (.region [oM 2 (.box (.t 0)),
  oM 3 (.box (.t 1)),
  oM 4 (.mov (.c (.nilf)))] none)
 (.seq (.region [oM 5 (.mkfn 60 [] [(.t 3), (.t 2)]),
  oT 4 5] none)
 (.ret))
theorem fn37 : env0.fn 37 = some ⟨6, ic37, [.t 4]⟩ := by kernel_rfl
-- pneumatic/setcover.choices$1
def ic60 : IC := .seq (.region [oM 3 (.box (.t 0))] none)
 (.seq (.region [oM 4 (.alloc [.nilf])] none)
 (.seq (.region [oM 5 (.mkfn 61 [] [(.t 1), (.t 3), (.t 2), (.t 4)]),
  ⟨none, .store 1 (.t 4) (.t 5), none⟩] none)
 (.region [oN 6 4,
  oM 7 (.call (.t 6) [(.c (.nils)), (.c (.int .i64 0))])] none)))
theorem fn60 : env0.fn 60 = some ⟨8, ic60, []⟩ := by kernel_rfl
def b61_0 : IC := .seq (.seq (.region [oT 19 9,
  oN 20 4,
  oN 21 2,
  oT 22 0,
  oM 23 (.len false (.t 22)),
  oM 24 (.bin .sub (.t 21) (.t 23)),
  oM 25 (.bin .sub (.t 20) (.t 24)),
  oM 26 (.bin .leq (.t 19) (.t 25))] none)
 (.cond (.t 26) (.skip)
 (.exit 0)))
 (.seq (.block 1 (.seq (.region [oN 29 5,
  oT 30 0,
  oT 31 9,
  oM 32 (.bslice 1 1 [.int .i64 0] [(0, 1, (.t 31))]),
  oM 33 (.append 1 8 [.int .i64 0] (.t 30) (.t 32)),
  oT 34 9,
  oM 35 (.bin .add (.t 34) (.c (.int .i64 1))),
  oM 36 (.call (.t 29) [(.t 33), (.t 35)]),
  oM 37 (.un .not (.t 36))] (some [[], [], [], [2], [1, 3], [], [5], [0, 4, 6, 4], [7]]))
 (.cond (.t 37) (.seq (.region [oM 8 (.mov (.c (.bool false)))] none)
 (.ret))
 (.skip))))
 (.region [oT 27 9,
  oM 28 (.bin .add (.t 27) (.c (.int .i64 1))),
  oT 9 28] none))
-- pneumatic/setcover.choices$1$1
def ic61 : IC := .seq (.region [oM 8 (.mov (.c (.bool false)))] none)
 (.seq (.seq (.region [oT 10 0,
  oM 11 (.len false (.t 10)),
  oN 12 2,
  oM 13 (.bin .eql (.t 11) (.t 12))] none)
 (.cond (.t 13) (.seq (.region [oN 14 3,
  oT 15 0,
  oM 16 (.call (.c (.fn 62 [] [])) [(.t 15)]),
  oM 17 (.call (.t 14) [(.t 16)]),
  oT 8 17] (some [[], [], [1], [0, 2, 2], [3, 3, 0, 1, 2, 3]]))
 (.ret))
 (.skip)))
 (.seq (.seq (.region [oT 18 1,
  oT 9 18] none)
 (.block 0 (.loop b61_0)))
 (.seq (.region [oM 8 (.mov (.c (.bool true)))] none)
 (.ret))))
theorem fn61 : env0.fn 61 = some ⟨38, ic61, [.t 8]⟩ := by kernel_rfl
theorem ztw (n k : Int) : PF Try.prog 37 [.int .i64 n, .int .i64 k] (.fn 60 [] [.vptr [.int .i64 k], .vptr [.int .i64 n]]) := by
 refine zb0 env0_ok fn37 [(0, .int .i64 n), (1, .int .i64 k)] (by show 2 ≤ 6; decide) rfl fun w0 N0 => ?_
 unfold ic37
 repeat (first | refine za7 ?_ | refine za0 rfl ?_ | refine za5 ?_ | refine za4 ?_ | refine zbl ?_ | refine zab ?_ | refine zaf ?_ | refine zc8 rfl ?_ | refine zc7 rfl ?_ | refine zbg ?_ | refine zao ?_ | refine zbf ?_ | refine zac ?_ | refine zby rfl ?_ | refine za9 ?_ | refine zaj ?_ | refine zh4 rfl ?_ | refine zkk rfl rfl ?_ | refine o_gt rfl ?_ | refine za3 rfl ?_ | refine zad rfl rfl ?_ | refine zb2 rfl rfl rfl rfl ?_ | refine zb3 rfl rfl rfl rfl rfl rfl rfl ?_ | refine zar rfl ?_ | refine zai rfl rfl rfl ?_ | refine zbj rfl rfl rfl ?_ | refine zdj rfl rfl rfl rfl ?_ | refine zba ?_ | refine zbk rfl rfl ?_ | refine zbb rfl rfl ?_ | refine zmd rfl rfl ?_ | refine zbo rfl rfl ?_ | refine zbz rfl rfl ?_ | refine zb6 rfl rfl ?_ | refine zcz rfl rfl ?_ | refine zdk rfl rfl rfl ?_ | refine zfh rfl rfl ?_ | refine zdu rfl rfl rfl rfl ?_ | refine zdi rfl rfl rfl rfl ?_ | refine zee rfl rfl rfl rfl ?_ | refine zhp rfl rfl ?_ | refine ze5 rfl rfl ?_ | refine zb5 rfl rfl ?_ | refine zhs ?_ | refine zdf env0_ok rfl rfl rfl ?_ | refine zb1 (op := .add) rfl rfl rfl ?_ | refine zb1 (op := .sub) rfl rfl rfl ?_ | refine zhr rfl rfl rfl ?_ | refine zhq rfl rfl rfl ?_ | refine zf5 rfl rfl rfl ?_ | refine zd5 rfl rfl rfl ?_ | refine zb7 rfl rfl (by omega) (by assumption) rfl ?_ | refine zbj rfl rfl (decide_eq_true ⟨by omega, by omega⟩) ?_ | refine zbe rfl rfl (by omega) (by omega) ?_ | refine zed rfl rfl rfl ?_ | refine zhu rfl ?_ | refine zht rfl ?_)
 exact zak ⟨.inr rfl, _, rfl, rfl⟩
structure CW (K N : Int) (id sp yb sy wb sw : Nat) (H : HS) : Prop where
 hy : Am.look yb H.heap = some (sy, .cells [.yield id sp])
 hw : Am.look wb H.heap = some (sw, .cells [.fn 61 [] [.vptr [.int .i64 K], .mptr yb sy 0, .vptr [.int .i64 N], .mptr wb sw 0]])
 ly : yb < H.next
 lw : wb < H.next
theorem CW.keep {M : Nat → Prop} {K N : Int} {id sp yb sy wb sw : Nat} {H H' : HS} (h : CW K N id sp yb sy wb sw H) (k : Keep M H H') (n1 : ¬ M yb) (n2 : ¬ M wb) : CW K N id sp yb sy wb sw H' :=
 ⟨(k.look yb n1 h.ly).trans h.hy, (k.look wb n2 h.lw).trans h.hw, y1e h.ly k.next, y1e h.lw k.next⟩
section
variable {σ τ : Type} {step : σ → List Int → σ ⊕ τ} {M : Nat → Prop} {I : σ → HS → Prop} {J : τ → HS → Prop}
def LeftW (M : Nat → Prop) (I : σ → HS → Prop) (J : τ → HS → Prop) (lb sl : Nat) (vs : List Int) (m : Nat) (H : HS) (o : σ ⊕ τ) (v : AV) (H' : HS) : Prop :=
 Left (fun i => M i ∨ i = lb) I J H o v H' ∧ ∃ X, X.length = m ∧ Am.look lb H'.heap = some (sl, .cells (zjz vs X))
def Walk (step : σ → List Int → σ ⊕ τ) (M : Nat → Prop) (I : σ → HS → Prop) (J : τ → HS → Prop) (Pr : σ → List Int → Prop) (w0 : World) (N0 K N id sp yb sy wb sw r : Nat) : Prop :=
 ∀ (vs : List Int) (first c : Nat) (X : List AV) (lb sl : Nat) (H : HS) (s : σ), vs.length + r = K → first ≤ N → vs.length + X.length = c → CW K N id sp yb sy wb sw H → Am.look lb H.heap = some (sl, .cells (zjz vs X)) → lb < H.next → ¬ M lb → lb ≠ yb → lb ≠ wb → I s H → zfb step Pr (beh vs (asc N r first)) s →
  Zm Try.prog w0 N0 (some none) ic61 (st 38 [(0, .ms lb sl 1 0 vs.length (some c)), (1, .int .i64 (first : Nat)), (2, .vptr [.int .i64 (K : Nat)]), (3, .mptr yb sy 0), (4, .vptr [.int .i64 (N : Nat)]), (5, .mptr wb sw 0)] H.heap H.next H.clk) []
   fun e S' => (e = .normal ∨ e = .ret) ∧ ∃ v, S'.leave.res [.t 8] = some v ∧ LeftW M I J lb sl vs X.length H (zcs step (beh vs (asc N r first)) s) v S'.leave.hs
theorem zxk {Pr : σ → List Int → Prop} {w0 : World} {N0 K N id sp yb sy wb sw r : Nat} (h : Walk step M I J Pr w0 N0 K N id sp yb sy wb sw r) (vs : List Int) (first c : Nat) (X : List AV) (lb sl : Nat) (H : HS) (s : σ) (h1 : vs.length + r = K) (h2 : first ≤ N) (h3 : vs.length + X.length = c) (h4 : CW K N id sp yb sy wb sw H) (h5 : Am.look lb H.heap = some (sl, .cells (zjz vs X))) (h6 : lb < H.next) (h7 : ¬ M lb) (h8 : lb ≠ yb) (h9 : lb ≠ wb) (h10 : I s H) (h11 : zfb step Pr (beh vs (asc N r first)) s) :
  FT Try.prog w0 N0 61 [.ms lb sl 1 0 vs.length (some c), .int .i64 (first : Nat), .vptr [.int .i64 (K : Nat)], .mptr yb sy 0, .vptr [.int .i64 (N : Nat)], .mptr wb sw 0] H (LeftW M I J lb sl vs X.length H (zcs step (beh vs (asc N r first)) s)) :=
 zfy env0_ok fn61 [(0, .ms lb sl 1 0 vs.length (some c)), (1, .int .i64 (first : Nat)), (2, .vptr [.int .i64 (K : Nat)]), (3, .mptr yb sy 0), (4, .vptr [.int .i64 (N : Nat)]), (5, .mptr wb sw 0)] (by show 6 ≤ 38; decide) rfl (h vs first c X lb sl H s h1 h2 h3 h4 h5 h6 h7 h8 h9 h10 h11)
theorem zxj {Pr : σ → List Int → Prop} {w0 : World} {N0 K N id sp yb sy wb sw r : Nat} (hloc : Local M I) (h : Walk step M I J Pr w0 N0 K N id sp yb sy wb sw r) (vs : List Int) (first : Nat) (lb sl : Nat) (H : HS) (s : σ) (h1 : vs.length + r = K) (h2 : first ≤ N) (h4 : CW K N id sp yb sy wb sw H) (h5 : Am.look lb H.heap = some (sl, .cells (vs.map (AV.int .i64)))) (h6 : lb < H.next) (h7 : ¬ M lb) (h8 : lb ≠ yb) (h9 : lb ≠ wb) (h10 : I s H) (h11 : zfb step Pr (beh vs (asc N r first)) s) :
  FT Try.prog w0 N0 61 [.ms lb sl 1 0 vs.length none, .int .i64 (first : Nat), .vptr [.int .i64 (K : Nat)], .mptr yb sy 0, .vptr [.int .i64 (N : Nat)], .mptr wb sw 0] H (Left (fun i => M i ∨ i = lb) I J H (zcs step (beh vs (asc N r first)) s)) := by
 refine zfy env0_ok fn61 [(0, .ms lb sl 1 0 vs.length none), (1, .int .i64 (first : Nat)), (2, .vptr [.int .i64 (K : Nat)]), (3, .mptr yb sy 0), (4, .vptr [.int .i64 (N : Nat)]), (5, .mptr wb sw 0)] (by show 6 ≤ 38; decide) rfl ?_
 refine z_capx 0 rfl h5 (y07 ..) fun c hc => ?_
 refine zo1 (zaa (l' := [(0, .ms lb sl 1 0 vs.length (some c)), (1, .int .i64 (first : Nat)), (2, .vptr [.int .i64 (K : Nat)]), (3, .mptr yb sy 0), (4, .vptr [.int .i64 (N : Nat)]), (5, .mptr wb sw 0)]) (.cons rfl (.cons rfl (.cons rfl (.cons rfl (.cons rfl (.cons rfl .nil))))))) ?_
 have hK : Keep (fun i => i = lb) H ⟨zaz lb (sl, .cells (zjz vs (List.replicate (c - vs.length) .top))) H.heap, H.next, H.clk⟩ := ⟨y0b _, y0b _, fun i hi _ => by
  show Am.look i (zaz lb _ H.heap) = _
  rw [za1, if_neg fun e => hi e.symm]⟩
 have hz := h vs first c (List.replicate (c - vs.length) .top) lb sl ⟨zaz lb (sl, .cells (zjz vs (List.replicate (c - vs.length) .top))) H.heap, H.next, H.clk⟩ s h1 h2 (by rw [y15]; omega) (h4.keep hK (fun e => h8 e.symm) fun e => h9 e.symm) (by show Am.look lb (zaz lb _ _) = _; rw [za1, if_pos rfl]) h6 h7 h8 h9
  (hloc.of s H _ h10 (y0b _) fun i hi => hK.look i (fun e => h7 (e ▸ hi)) (hloc.lt s H h10 i hi)) h11
 refine z_mono hz fun e S' ⟨he, v, hv, ⟨hk, hm⟩, _⟩ => ⟨he, v, hv, (Keep.mono hK fun i e => .inr e).trans hk, hm⟩
end
theorem keep_put {lb ck : Nat} {H : HS} {o o2 : Nat × AObj} (hck : H.clk ≤ ck) : Keep (fun j => j = lb) H ⟨zaz lb o ((H.next, o2) :: H.heap), H.next + 1, ck⟩ := ⟨y23 _, hck, fun j hj hj2 => by
 show Am.look j (zaz lb o ((H.next, o2) :: H.heap)) = _
 rw [za1, if_neg (fun e => hj e.symm), zdc hj2]⟩
theorem zqh {M : Nat → Prop} {ck : Nat} {H : HS} {o o2 : Nat × AObj} (hck : H.clk ≤ ck) : Keep M H ⟨(H.next + 1, o) :: (H.next, o2) :: H.heap, H.next + 1 + 1, ck⟩ := ⟨by show H.next ≤ H.next + 1 + 1; omega, hck, fun j _ hj2 => by
 show Am.look j ((H.next + 1, o) :: (H.next, o2) :: H.heap) = _
 rw [zdc (by omega), zdc hj2]⟩
section
variable {σ τ : Type} {step : σ → List Int → σ ⊕ τ} {M : Nat → Prop} {I : σ → HS → Prop} {J : τ → HS → Prop}
set_option maxHeartbeats 4000000 in
theorem zxm {Pr : σ → List Int → Prop} {w0 : World} {N0 K N id sp yb sy wb sw : Nat} (hK : K ≤ 1000000) (hloc : Local M I) (ny : ¬ M yb) (nw : ¬ M wb) (hy : ∀ s l H, Pr s l → I s H → CT Try.prog w0 N0 (.yield id sp) [vsI l] H (Left M I J H (step s l))) : Walk step M I J Pr w0 N0 K N id sp yb sy wb sw 0 := by
 intro vs first c X lb sl H s h1 h2 h3 hC hlb hlt hM n1 n2 hI hal
 have h1 : vs.length = K := h1
 have hb : beh vs (asc N 0 first) = [vs] := by unfold beh asc; simp
 rw [hb] at hal ⊢
 have pC := clone45 vs (by omega)
 unfold ic61
 repeat (first | refine za7 ?_ | refine za0 rfl ?_ | refine za5 ?_ | refine za4 ?_ | refine zbl ?_ | refine zab ?_ | refine zaf ?_ | refine zc8 rfl ?_ | refine zc7 rfl ?_ | refine zbg ?_ | refine zao ?_ | refine zbf ?_ | refine zac ?_ | refine zby rfl ?_ | refine za9 ?_ | refine zaj ?_ | refine zh4 rfl ?_ | refine zkk rfl rfl ?_ | refine o_gt rfl ?_ | refine za3 rfl ?_ | refine zad rfl rfl ?_ | refine zb2 rfl rfl rfl rfl ?_ | refine zb3 rfl rfl rfl rfl rfl rfl rfl ?_ | refine zar rfl ?_ | refine zai rfl rfl rfl ?_ | refine zbj rfl rfl rfl ?_ | refine zdj rfl rfl rfl rfl ?_ | refine zba ?_ | refine zbk rfl rfl ?_ | refine zbb rfl rfl ?_ | refine zmd rfl rfl ?_ | refine zbo rfl rfl ?_ | refine zbz rfl rfl ?_ | refine zb6 rfl rfl ?_ | refine zcz rfl rfl ?_ | refine zdk rfl rfl rfl ?_ | refine zfh rfl rfl ?_ | refine zdu rfl rfl rfl rfl ?_ | refine zdi rfl rfl rfl rfl ?_ | refine zee rfl rfl rfl rfl ?_ | refine zhp rfl rfl ?_ | refine ze5 rfl rfl ?_ | refine zb5 rfl rfl ?_ | refine zhs ?_ | refine zdf env0_ok rfl rfl rfl ?_ | refine zb1 (op := .add) rfl rfl rfl ?_ | refine zb1 (op := .sub) rfl rfl rfl ?_ | refine zhr rfl rfl rfl ?_ | refine zhq rfl rfl rfl ?_ | refine zf5 rfl rfl rfl ?_ | refine zd5 rfl rfl rfl ?_ | refine zb7 rfl rfl (by omega) (by assumption) rfl ?_ | refine zbj rfl rfl (decide_eq_true ⟨by omega, by omega⟩) ?_ | refine zbe rfl rfl (by omega) (by omega) ?_ | refine zed rfl rfl rfl ?_ | refine zhu rfl ?_ | refine zht rfl ?_)
 refine zf5 rfl rfl (by show some (AV.bool ((vs.length : Int) == (K : Int))) = _; rw [h1]; simp) ?_
 repeat (first | refine za7 ?_ | refine za0 rfl ?_ | refine za5 ?_ | refine za4 ?_ | refine zbl ?_ | refine zab ?_ | refine zaf ?_ | refine zc8 rfl ?_ | refine zc7 rfl ?_ | refine zbg ?_ | refine zao ?_ | refine zbf ?_ | refine zac ?_ | refine zby rfl ?_ | refine za9 ?_ | refine zaj ?_ | refine zh4 rfl ?_ | refine zkk rfl rfl ?_ | refine o_gt rfl ?_ | refine za3 rfl ?_ | refine zad rfl rfl ?_ | refine zb2 rfl rfl rfl rfl ?_ | refine zb3 rfl rfl rfl rfl rfl rfl rfl ?_ | refine zar rfl ?_ | refine zai rfl rfl rfl ?_ | refine zbj rfl rfl rfl ?_ | refine zdj rfl rfl rfl rfl ?_ | refine zba ?_ | refine zbk rfl rfl ?_ | refine zbb rfl rfl ?_ | refine zmd rfl rfl ?_ | refine zbo rfl rfl ?_ | refine zbz rfl rfl ?_ | refine zb6 rfl rfl ?_ | refine zcz rfl rfl ?_ | refine zdk rfl rfl rfl ?_ | refine zfh rfl rfl ?_ | refine zdu rfl rfl rfl rfl ?_ | refine zdi rfl rfl rfl rfl ?_ | refine zee rfl rfl rfl rfl ?_ | refine zhp rfl rfl ?_ | refine ze5 rfl rfl ?_ | refine zb5 rfl rfl ?_ | refine zhs ?_ | refine zb1 (op := .add) rfl rfl rfl ?_ | refine zb1 (op := .sub) rfl rfl rfl ?_ | refine zhr rfl rfl rfl ?_ | refine zhq rfl rfl rfl ?_ | refine zf5 rfl rfl rfl ?_ | refine zd5 rfl rfl rfl ?_ | refine zb7 rfl rfl (by omega) (by assumption) rfl ?_ | refine zbj rfl rfl (decide_eq_true ⟨by omega, by omega⟩) ?_ | refine zbe rfl rfl (by omega) (by omega) ?_ | refine zed rfl rfl rfl ?_ | refine zhu rfl ?_ | refine zht rfl ?_)
 have hv : ∀ l : List (Nat × AV), [AV.ms lb sl 1 0 vs.length (some c)].map ((st 38 l H.heap H.next H.clk).view VD) = [vsI vs] := fun l => by
  rw [List.map_singleton, show VD = 3 + 1 from rfl, zh1 (d := 3) vs rfl hlb]
 refine z_any env0_ok.mix fun rd => ?_
 repeat' first
  | exact trivial
  | refine AnyF.succ (by decide) ?_
  | refine AllL.cons' ?_ ?_
  | refine zh5 (i := 0) rfl rfl (zuu rfl hC.hy hC.ly rfl) ?_
  | refine zh5 (i := 1) rfl rfl (g_mov rfl) ?_
  | refine af_pfn (i := 2) rfl rfl rfl (hv _) pC ?_
  | refine af_ct (i := 3) (fv := .yield id sp) (vs := [vsI vs]) (Left M I J H (step s vs)) rfl rfl rfl rfl (hy s vs H hal.1 hI) (fun _ _ _ _ h => absurd h y0i) fun v H1 hF => ?_
  | refine zh5 (i := 4) rfl rfl (g_mov rfl) ?_
  | refine AnyF.fin (by decide) (Um.ok ?_)
 all_goals
  obtain ⟨hk, hm⟩ := hF
  have hlk := (hk.look lb hM hlt).trans hlb
  repeat (first | refine za7 ?_ | refine za0 rfl ?_ | refine za5 ?_ | refine za4 ?_ | refine zbl ?_ | refine zab ?_ | refine zaf ?_ | refine zc8 rfl ?_ | refine zc7 rfl ?_ | refine zbg ?_ | refine zao ?_ | refine zbf ?_ | refine zac ?_ | refine zby rfl ?_ | refine za9 ?_ | refine zaj ?_ | refine zh4 rfl ?_ | refine zkk rfl rfl ?_ | refine o_gt rfl ?_ | refine za3 rfl ?_ | refine zad rfl rfl ?_ | refine zb2 rfl rfl rfl rfl ?_ | refine zb3 rfl rfl rfl rfl rfl rfl rfl ?_ | refine zar rfl ?_ | refine zai rfl rfl rfl ?_ | refine zbj rfl rfl rfl ?_ | refine zdj rfl rfl rfl rfl ?_ | refine zba ?_ | refine zbk rfl rfl ?_ | refine zbb rfl rfl ?_ | refine zmd rfl rfl ?_ | refine zbo rfl rfl ?_ | refine zbz rfl rfl ?_ | refine zb6 rfl rfl ?_ | refine zcz rfl rfl ?_ | refine zdk rfl rfl rfl ?_ | refine zfh rfl rfl ?_ | refine zdu rfl rfl rfl rfl ?_ | refine zdi rfl rfl rfl rfl ?_ | refine zee rfl rfl rfl rfl ?_ | refine zhp rfl rfl ?_ | refine ze5 rfl rfl ?_ | refine zb5 rfl rfl ?_ | refine zhs ?_ | refine zdf env0_ok rfl rfl rfl ?_ | refine zb1 (op := .add) rfl rfl rfl ?_ | refine zb1 (op := .sub) rfl rfl rfl ?_ | refine zhr rfl rfl rfl ?_ | refine zhq rfl rfl rfl ?_ | refine zf5 rfl rfl rfl ?_ | refine zd5 rfl rfl rfl ?_ | refine zb7 rfl rfl (by omega) (by assumption) rfl ?_ | refine zbj rfl rfl (decide_eq_true ⟨by omega, by omega⟩) ?_ | refine zbe rfl rfl (by omega) (by omega) ?_ | refine zed rfl rfl rfl ?_ | refine zhu rfl ?_ | refine zht rfl ?_)
  refine zak ⟨.inr rfl, _, rfl, ⟨Keep.mono hk fun i hi => .inl hi, ?_⟩, X, rfl, hlk⟩
  rw [zcs]
  cases hst : step s vs with
  | inr t =>
   rw [hst] at hm
   exact hm
  | inl s' =>
   rw [hst] at hm
   exact hm
end
end Go.Proofs.Ytfbeableaihooaa.Sc
