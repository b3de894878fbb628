/-
  PATHS: led walked.
-/
import Derived.Test.YtoagikifehmlpaaQJ1
namespace Go.Proofs.Ytoagikifehmlpaa
open Go Go.Am
def b49_0 : IC := .seq (.seq (.region [⟨(some 14), .load none (.t 10), none⟩,
  ⟨(some 15), .mov (.t 2), none⟩,
  ⟨(some 16), .bin .neq (.t 14) (.t 15), none⟩] none)
 (.cond (.t 16) (.skip)
 (.exit 0)))
 (.seq (.block 1 (.seq (.region [⟨(some 17), .mov (.t 0), none⟩,
  ⟨(some 18), .load none (.t 10), none⟩,
  ⟨(some 19), .idxs 1 (.t 17) (.t 18), none⟩,
  ⟨(some 20), .load none (.t 19), none⟩,
  ⟨(some 21), .mov (.t 0), none⟩,
  ⟨(some 22), .load none (.t 10), none⟩,
  ⟨(some 23), .idxs 1 (.t 21) (.t 22), none⟩,
  ⟨(some 24), .load none (.t 23), none⟩,
  ⟨(some 25), .mkfn 67 [] [(.t 7), (.t 10)], none⟩,
  ⟨(some 26), .call (.c (.fn 66 [] [])) [(.t 24), (.t 25)], none⟩,
  ⟨(some 27), .idxs 1 (.t 20) (.t 26), none⟩,
  ⟨(some 28), .load none (.t 27), none⟩,
  ⟨none, .store 1 (.t 10) (.t 28), none⟩] (some [[], [], [0, 1], [2], [], [], [4, 5], [6], [], [7, 8], [3, 9], [10], [11, 9, 0, 1, 2, 3, 4, 5, 6, 7, 8, 9, 10, 11]]))
 (.region [⟨(some 29), .mov (.t 9), none⟩,
  ⟨(some 30), .load none (.t 10), none⟩,
  ⟨(some 31), .bslice 1 1 [.int .i64 0] [(0, 1, (.t 30))], none⟩,
  ⟨(some 32), .append 1 8 [.int .i64 0] (.t 29) (.t 31), none⟩,
  ⟨(some 9), .mov (.t 32), none⟩] none)))
 (.seq (.region [⟨(some 33), .load none (.t 10), none⟩] none)
 (.region [⟨(some 10), .alloc [.int .i64 0], none⟩,
  ⟨none, .store 1 (.t 10) (.t 33), none⟩] none)))
-- (pneumatic/digraph.net).led
def ic49 : IC := .seq (.region [⟨(some 7), .box (.t 3), none⟩,
  ⟨(some 8), .mov (.c (.nils)), none⟩] none)
 (.seq (.region [⟨(some 11), .mov (.t 1), none⟩,
  ⟨(some 12), .bslice 1 1 [.int .i64 0] [(0, 1, (.t 11))], none⟩,
  ⟨(some 9), .mov (.t 12), none⟩] none)
 (.seq (.seq (.region [⟨(some 13), .mov (.t 1), none⟩,
  ⟨(some 10), .alloc [.int .i64 0], none⟩,
  ⟨none, .store 1 (.t 10) (.t 13), none⟩] none)
 (.block 0 (.loop b49_0)))
 (.seq (.region [⟨(some 34), .mov (.t 9), none⟩,
  ⟨(some 8), .mov (.t 34), none⟩] none)
 (.ret))))
theorem fn49 : env0.fn 49 = some ⟨35, ic49, [.t 8]⟩ := by kernel_rfl
inductive Lq (b : Nat) (hp : List (Nat × Nat × AObj)) (nx : Nat) (q : List Int) : AV → Prop
 | lit {id sp : Nat} (a : Int) (hq : q = [a]) (hl : Am.look id hp = some (sp, .cells [.int .i64 a])) (hne : id ≠ b) (hn : id < nx) : Lq b hp nx q (.ms id sp 1 0 1 (some 1))
 | gen {id sp : Nat} (hl : Am.look id hp = some (sp, .cells (q.map (AV.int .i64)))) (hne : id ≠ b) (hn : id < nx) : Lq b hp nx q (.ms id sp 1 0 q.length none)
structure Vq (v : Int) (b sb : Nat) (q : List Int) (qv : AV) (hp : List (Nat × Nat × AObj)) (nx : Nat) : Prop where
 var : Am.look b hp = some (sb, .cells [.int .i64 v])
 bn : b < nx
 lst : Lq b hp nx q qv
theorem Lq.fresh {b nx : Nat} {hp : List (Nat × Nat × AObj)} {q : List Int} {qv : AV} (h : Lq b hp nx q qv) (ck : Nat) (x : AObj) : Lq b ((nx, ck, x) :: hp) (nx + 1) q qv := by
 cases h with
 | lit a hq hl hne hn => exact .lit a hq (by rw [za8, if_neg (by omega)]; exact hl) hne (by omega)
 | gen hl hne hn => exact .gen (by rw [za8, if_neg (by omega)]; exact hl) hne (by omega)
theorem Lq.other {b b' nx : Nat} {hp : List (Nat × Nat × AObj)} {q : List Int} {qv : AV} (h : Lq b hp nx q qv) (hb : nx ≤ b') : Lq b' hp nx q qv := by
 cases h with
 | lit a hq hl hne hn => exact .lit a hq hl (by omega) hn
 | gen hl hne hn => exact .gen hl (by omega) hn
theorem Lq.put {b nx : Nat} {hp : List (Nat × Nat × AObj)} {q : List Int} {qv : AV} (h : Lq b hp nx q qv) (x : Nat × AObj) : Lq b (zca b x hp) nx q qv := by
 cases h with
 | lit a hq hl hne hn => exact .lit a hq (by rw [za7, if_neg (fun e => hne e.symm)]; exact hl) hne hn
 | gen hl hne hn => exact .gen (by rw [za7, if_neg (fun e => hne e.symm)]; exact hl) hne hn
theorem Vq.fresh {v : Int} {b sb nx : Nat} {hp : List (Nat × Nat × AObj)} {q : List Int} {qv : AV} (h : Vq v b sb q qv hp nx) (ck : Nat) (x : AObj) : Vq v b sb q qv ((nx, ck, x) :: hp) (nx + 1) :=
 ⟨by rw [za8, if_neg (by have := h.bn; omega)]; exact h.var, by have := h.bn; omega, h.lst.fresh ck x⟩
theorem Vq.set {v : Int} {b sb nx : Nat} {hp : List (Nat × Nat × AObj)} {q : List Int} {qv : AV} (h : Vq v b sb q qv hp nx) (w : Int) : Vq w b sb q qv (zca b (sb, .cells [.int .i64 w]) hp) nx :=
 ⟨by rw [za7, if_pos rfl], h.bn, h.lst.put _⟩
theorem Lq.view {b nx d : Nat} {S : AS} {q : List Int} {qv : AV} (h : Lq b S.heap nx q qv) : S.view (d + 1) qv = vsI q := by
 cases h with
 | lit a hq hl hne hn => subst hq; exact zco [a] rfl hl
 | gen hl hne hn => exact zco q rfl hl
theorem o_lapp {w0 : World} {N0 n d nx ck : Nat} {k : List Fr} {Q : Exit → AS → Prop} {l : List (Nat × AV)} {ios : List Opr} {v : Int} {b sb : Nat} {q : List Int} {qv : AV} {hp : List (Nat × Nat × AObj)} {bytes j sj : Nat} {x0 : Int} {z : List AV} {s x : Arg} (hF : Vq v b sb q qv hp nx) (hlen : q.length ≤ 1000000) (hs : zb3 s l = some qv) (hx : zb3 x l = some (.ms j sj 1 0 1 (some 1))) (hj : Am.look j hp = some (sj, .cells [.int .i64 x0])) (hb : bytes ≤ 16777216)
  (go : ∀ qv' hp' nx' ck', Vq v b sb (q ++ [x0]) qv' hp' nx' → Om Try.prog w0 N0 none (KnP Try.prog w0 N0) ios (st n ((d, qv') :: l) hp' nx' ck') k Q) :
  Om Try.prog w0 N0 none (KnP Try.prog w0 N0) (⟨some d, .append 1 bytes z s x, none⟩ :: ios) (st n l hp nx ck) k Q := by
 have hel : (st n l hp nx ck []).elems 1 (.ms j sj 1 0 1 (some 1)) = some [[.int .i64 x0]] := zdc (xs := [[.int .i64 x0]]) (ys := []) hj rfl fun x hx => by obtain rfl := List.mem_singleton.1 hx; rfl
 have hbn := hF.bn
 cases hF.lst with
 | @lit id sp a hq hl h1 hn =>
  subst hq
  have hi : iop (st n l hp nx ck) (.append 1 bytes z s x) = some (.ms nx ck 1 0 2 none, st n l ((nx, ck, .cells ([a, x0].map (AV.int .i64))) :: hp) (nx + 1) (ck + 1)) := by
   simp only [iop, zam, hs, hx, hel]
   unfold zb7
   rw [if_neg (show ¬ [[AV.int .i64 x0]].length = 0 from Nat.succ_ne_zero 0), if_pos (show [[AV.int .i64 x0]].flatten.all AV.isCell = true ∧ bytes ≤ 16777216 from ⟨rfl, hb⟩)]
   simp only [show (st n l hp nx ck []).heap = hp from rfl, hl]
   rw [if_pos (show True ∧ True ∧ 0 + 1 * 1 ≤ ([AV.int .i64 a]).length ∧ 1 + [[AV.int .i64 x0]].length ≤ 1048576 from ⟨trivial, trivial, Nat.le_refl 1, (by show 2 ≤ 1048576; decide)⟩), if_neg (show ¬ 1 + [[AV.int .i64 x0]].length ≤ 1 from (by show ¬ 2 ≤ 1; decide))]
   rfl
  refine ze9 hi (go _ _ _ _ ⟨by rw [za8, if_neg (by omega)]; exact hF.var, by omega, ?_⟩) (fun _ _ _ _ _ _ _ => rfl)
  exact .gen (q := [a, x0]) zb5 (by omega) (by omega)
 | @gen id sp hl h1 hn =>
  refine ze7 [[.int .i64 x0]] hs hx hel (fun h => Nat.noConfusion h) rfl hb hl (by rw [List.length_map, Nat.mul_one]) (by show _ + 1 ≤ _; omega) ?_ (fun _ _ _ _ _ _ _ => rfl)
  refine go _ _ _ _ ⟨by rw [za7, if_neg h1]; exact hF.var, hbn, ?_⟩
  have e3 : q.map (AV.int .i64) ++ [[AV.int .i64 x0]].flatten = (q ++ [x0]).map (AV.int .i64) := by rw [List.map_append]; rfl
  rw [e3]
  have := Lq.gen (b := b) (hp := zca id (ck, .cells ((q ++ [x0]).map (AV.int .i64))) hp) (nx := nx) (q := q ++ [x0]) (id := id) (sp := ck) (by rw [za7, if_pos rfl]) h1 hn
  rw [List.length_append] at this
  exact this
theorem view_cap {S : AS} {b sb d : Nat} {v : Int} (h : Am.look b S.heap = some (sb, .cells [.int .i64 v])) (hn : b < S.next) : S.view (d + 1) (.mptr b sb 0) = .vptr [.int .i64 v] := by
 simp only [AS.view, zo1 (off := 0) (v := .int .i64 v) (ws := []) h hn rfl]
 cases d <;> rfl
def iL (l : List Nat) : List Int := l.map fun w => ((w : Nat) : Int)
set_option maxHeartbeats 4000000 in
theorem led49 (m : Nat) (hm : m ≤ 256) (E : List (Nat × Nat)) (hb : ∀ u v, (u, v) ∈ E → u < m ∧ v < m) (f t : Nat) (hf : f < m) (ht : t < m) (back : List Int) (hL : Lab (rvE E) m t back) (h0 : 0 ≤ gI back f) :
  PF Try.prog 49 [cN E m, .int .i64 (f : Nat), .int .i64 (t : Nat), vsI back] (vsI (iL (f :: zcm E m back (gI back f).toNat f))) := by
 have hbt : ∀ v, gI back v < m := ziu hL.len hL.down
 have hlen : ((List.range m).map fun v => ([vN (nbr E m v)] : List AV)).length = m := by rw [List.length_map, List.length_range]
 refine zb4 env0_ok fn49 [(0, cN E m), (1, .int .i64 (f : Nat)), (2, .int .i64 (t : Nat)), (3, vsI back)] (by show 4 ≤ 35; decide) rfl fun w0 N0 => ?_
 unfold ic49
 refine za6 (za0 rfl (ze8 rfl rfl (za2 rfl (za5 (za3 ?_)))))
 refine zby [] [(0, 0, [vsI back])] [(0, cN E m), (1, .int .i64 (f : Nat)), (2, .int .i64 (t : Nat)), (7, .vptr [vsI back])] rfl (.cons rfl rfl .nil) .nil (.cons rfl (.same rfl) (.cons rfl (.same rfl) (.cons rfl (.same rfl) (.cons rfl (.fptr rfl rfl) .nil)))) ?_
 repeat (first | refine za6 ?_ | refine za0 rfl ?_ | refine za5 ?_ | refine za3 ?_ | refine zae ?_ | refine za2 rfl ?_ | refine zdm rfl rfl rfl rfl rfl rfl rfl ?_ | refine ze6 ?_ | refine zcl rfl rfl ?_)
 have hK : (iL (f :: zcm E m back (gI back f).toNat f)).length ≤ 257 := by
  have := hbt f
  unfold iL
  rw [List.length_map, List.length_cons, zen]
  omega
 generalize hT : iL (f :: zcm E m back (gI back f).toNat f) = T at *
 refine zbx (fun mm S => ∃ v q qv b sb hp nx ck, mm = (gI back v).toNat ∧ v < m ∧ 0 ≤ gI back v ∧ q ++ iL (zcm E m back (gI back v).toNat v) = T ∧ Vq (v : Nat) b sb q qv hp nx ∧ S = st 35 [(0, cN E m), (2, .int .i64 (t : Nat)), (7, .vptr [vsI back]), (9, qv), (10, .mptr b sb 0)] hp nx ck) (gI back f).toNat
  (za9 (.cons rfl (.cons rfl (.cons rfl (.cons rfl (.cons rfl .nil)))))) ⟨f, [(f : Nat)], .ms 0 1 1 0 1 (some 1), 1, 2, _, _, _, rfl, hf, h0, hT, ⟨rfl, Nat.lt_succ_self 1, .lit _ rfl rfl (by decide) (by decide)⟩, rfl⟩ ?_
 rintro mm S ⟨v, q, qv, b, sb, hp, nx, ck, rfl, hv, h1, hq, hF, rfl⟩
 have hql : q.length ≤ 257 := by
  rw [← hq, List.length_append] at hK
  omega
 unfold b49_0
 repeat (first | refine za6 ?_ | refine za0 rfl ?_)
 refine zb1 (id := b) (sp := sb) (off := 0) rfl hF.var hF.bn rfl ?_
 repeat (first | refine za2 rfl ?_)
 refine zau rfl rfl rfl (fun h3 => ?_) fun h3 => ?_
 ·have hne : ¬ ((v : Nat) : Int) = ((t : Nat) : Int) := by simpa using h3
  have hpos : 0 < gI back v := by
   have : gI back v ≠ 0 := fun e => hne (by rw [hL.root v e])
   omega
  obtain ⟨hfi, hed, hwm, hbw⟩ := nxt_ok hL hb hpos
  obtain ⟨kk, hkl, hke, hkp, hkn⟩ := zo8 hfi
  have hrs : zcm E m back (gI back v).toNat v = nxt E m back v :: zcm E m back (gI back (nxt E m back v)).toNat (nxt E m back v) := by
   obtain ⟨k, hk⟩ : ∃ k : Nat, gI back v = ((k + 1 : Nat) : Int) := ⟨(gI back v).toNat - 1, by omega⟩
   have e1 : (gI back v).toNat = k + 1 := by omega
   have e2 : (gI back (nxt E m back v)).toNat = k := by omega
   rw [e1, e2, zcm]
  have hnl : (nbr E m v).length ≤ m := by
   unfold nbr
   exact Nat.le_trans (List.length_filter_le ..) (by rw [List.length_range]; exact Nat.le_refl _)
  have p66 := index66 back (nbr E m v) v (by omega) (fun w hw => by rw [hL.len]; exact (hb _ _ ((zc9 fun u v h => (hb u v h).2).1 hw)).2) (by rw [hL.len]; exact hv) (hL.low v) (by have := hbt v; omega) kk hkl (by rw [hke]; exact hkp) hkn
  have hgN : ((List.range m).map fun v => ([vN (nbr E m v)] : List AV))[((v : Nat) : Int).toNat]? = some [vN (nbr E m v)] := by
   rw [Int.toNat_natCast, List.getElem?_map, List.getElem?_range hv]
   rfl
  have hgk := zlw hkl
  rw [hke] at hgk
  generalize nxt E m back v = w at *
  generalize nbr E m v = l at *
  have hldb : Nat.beq b b = true := Nat.beq_refl b
  have hvw : ∀ L : List (Nat × AV), [vN l, .fn 67 [] [.vptr [vsI back], .mptr b sb 0]].map ((st 35 L hp nx ck []).view VD) = [vN l, .fn 67 [] [.vptr [vsI back], .vptr [.int .i64 (v : Nat)]]] := fun L => by
   show [vN l, AV.fn 67 [] [.vptr [vsI back], (st 35 L hp nx ck []).view 3 (.mptr b sb 0)]] = _
   rw [view_cap hF.var hF.bn]
  repeat (first | refine za6 ?_ | refine za5 ?_ | refine za3 ?_ | refine zae ?_ | refine zad ?_ | refine zcp rfl ?_)
  refine z_cut env0_ok 12 [(66, [vN l, .fn 67 [] [.vptr [vsI back], .vptr [.int .i64 (v : Nat)]]], .int .i64 (kk : Nat))] (fun x hx => by
   obtain rfl := List.mem_singleton.1 hx
   exact p66) (fun f => Nat.beq f 66) (fun i => Nat.beq i b) (fun i => !(Nat.beq i b)) (fun i h1 h2 => by rw [h1] at h2; cases h2) rfl rfl rfl rfl ?_
  show Om _ _ _ _ _ [_, _, _, _, _, _, _, _, _, _, _, _] _ _ _
  refine za2 rfl ?_
  refine zb1 (id := b) (sp := sb) (off := 0) rfl hF.var hF.bn rfl ?_ (zsc rfl hldb)
  refine zaw rfl rfl (Int.natCast_nonneg v) hgN rfl ?_
  refine zaf rfl rfl ?_
  refine za2 rfl ?_
  refine zb1 (id := b) (sp := sb) (off := 0) rfl hF.var hF.bn rfl ?_ (zsc rfl hldb)
  refine zaw rfl rfl (Int.natCast_nonneg v) hgN rfl ?_
  refine zaf rfl rfl ?_
  refine o_mkfn rfl rfl ?_
  refine zak rfl (hvw _) zbm (fun _ => rfl) ?_
  refine zaw rfl rfl (Int.natCast_nonneg kk) hgk rfl ?_
  refine zaf rfl rfl ?_
  refine za5 (zao ⟨rfl, fun rd => ?_⟩)
  refine AnyF.one 12 rfl (zkt (i := 12) rfl (zg3 (id := b) (sp := sb) (off := 0) rfl rfl rfl rfl hF.var rfl rfl) ?_)
  have hF2 : Vq (w : Nat) b sb q qv (zca b (sb, .cells [.int .i64 (w : Nat)]) hp) nx := hF.set _
  refine AnyF.fin rfl (Um.ok (za3 ?_))
  repeat (first | refine za0 rfl ?_ | refine za2 rfl ?_)
  refine zb1 (id := b) (sp := sb) (off := 0) rfl hF2.var hF2.bn rfl ?_
  repeat (first | refine zcl rfl rfl ?_)
  have hF3 := hF2.fresh ck (.cells [.int .i64 (w : Nat)])
  refine o_lapp hF3 (by omega) rfl rfl zb5 (by decide) fun qv' hp' nx' ck' hF4 => ?_
  repeat (first | refine za6 ?_ | refine za0 rfl ?_ | refine za5 ?_ | refine za3 ?_ | refine zcb ?_ | refine za2 rfl ?_)
  refine zb1 (id := b) (sp := sb) (off := 0) rfl hF4.var hF4.bn rfl ?_
  repeat (first | refine za0 rfl ?_ | refine za5 ?_ | refine za3 ?_ | refine ze6 ?_)
  refine zdm (id := nx') (sp := ck') (off := 0) rfl rfl rfl rfl zb5 rfl rfl ?_
  repeat (first | refine za5 ?_)
  refine zay (show (gI back w).toNat < (gI back v).toNat by omega) (za9 (.cons rfl (.cons rfl (.cons rfl (.cons rfl (.cons rfl .nil)))))) ⟨w, q ++ [((w : Nat) : Int)], qv', nx', ck', _, _, _, rfl, hwm, by omega, ?_, ⟨by rw [za7, if_pos rfl]; rfl, Nat.lt_succ_self _, ?_⟩, rfl⟩
  ·rw [← hq, hrs, List.append_assoc]
   rfl
  ·exact ((hF4.lst.other (Nat.le_refl _)).fresh ck' (.cells [.int .i64 0])).put _
 ·have hvt : ((v : Nat) : Int) = ((t : Nat) : Int) := by simpa using h3
  have hv2 : v = t := Int.ofNat_inj.1 hvt
  subst hv2
  rw [hL.zero] at hq
  have hq : q = T := by simpa [zcm, iL] using hq
  repeat (first | refine za5 ?_ | refine za3 ?_ | refine zce rfl ?_ | refine zbw ?_ | refine zag ?_)
  refine zdb ?_
  repeat (first | refine za6 ?_ | refine za0 rfl ?_ | refine za5 ?_ | refine za3 ?_ | refine zaq ?_ | refine zbv ?_ | refine za2 rfl ?_)
  refine zao ⟨.inr rfl, _, rfl, ?_⟩
  rw [← hq]
  exact hF.lst.view
end Go.Proofs.Ytoagikifehmlpaa
