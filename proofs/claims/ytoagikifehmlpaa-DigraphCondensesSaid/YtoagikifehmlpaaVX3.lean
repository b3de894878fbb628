/-
  PATHS: led walked.; THE ORDER: sorted walked.; THE SEARCH INTO THE DEPTH: the closure visit walked.; THE SEARCH IN THE OTHER DIRECTION: the closure collect walked.; REGIONS IN ALL THEIR ORDERS BY AN INVARIANT.; COMPONENTS: the region that makes the two lists of neighbours.; COMPONENTS of the example: the region walked, the rest run.; THE EXAMPLES OF THE CHAPTER.; slices.Contains on numbers and on 
-/
import Derived.Test.YtoagikifehmlpaaVX2
namespace Go.Proofs.Ytoagikifehmlpaa
open Go Go.Am
def b49_0 : IC := .seq (.seq (.region [⟨(some 14), .load none (.t 10), none⟩,
  ⟨(some 15), .mov (.t 2), none⟩,
  ⟨(some 16), .bin .neq (.t 14) (.t 15), none⟩] none)
 (.cond (.t 16) (.skip)
 (.exit 0)))
 (.seq (.block 1 (.seq (.region [⟨(some 17), .mov (.t 0), none⟩,
  ⟨(some 18), .load none (.t 10), none⟩,
  ⟨(some 19), .idxs 1 (.t 17) (.t 18), none⟩,
  ⟨(some 20), .load none (.t 19), none⟩,
  ⟨(some 21), .mov (.t 0), none⟩,
  ⟨(some 22), .load none (.t 10), none⟩,
  ⟨(some 23), .idxs 1 (.t 21) (.t 22), none⟩,
  ⟨(some 24), .load none (.t 23), none⟩,
  ⟨(some 25), .mkfn 67 [] [(.t 7), (.t 10)], none⟩,
  ⟨(some 26), .call (.c (.fn 66 [] [])) [(.t 24), (.t 25)], none⟩,
  ⟨(some 27), .idxs 1 (.t 20) (.t 26), none⟩,
  ⟨(some 28), .load none (.t 27), none⟩,
  ⟨none, .store 1 (.t 10) (.t 28), none⟩] (some [[], [], [0, 1], [2], [], [], [4, 5], [6], [], [7, 8], [3, 9], [10], [11, 9, 0, 1, 2, 3, 4, 5, 6, 7, 8, 9, 10, 11]]))
 (.region [⟨(some 29), .mov (.t 9), none⟩,
  ⟨(some 30), .load none (.t 10), none⟩,
  ⟨(some 31), .bslice 1 1 [.int .i64 0] [(0, 1, (.t 30))], none⟩,
  ⟨(some 32), .append 1 8 [.int .i64 0] (.t 29) (.t 31), none⟩,
  ⟨(some 9), .mov (.t 32), none⟩] none)))
 (.seq (.region [⟨(some 33), .load none (.t 10), none⟩] none)
 (.region [⟨(some 10), .alloc [.int .i64 0], none⟩,
  ⟨none, .store 1 (.t 10) (.t 33), none⟩] none)))
-- (pneumatic/digraph.net).led
def ic49 : IC := .seq (.region [⟨(some 7), .box (.t 3), none⟩,
  ⟨(some 8), .mov (.c (.nils)), none⟩] none)
 (.seq (.region [⟨(some 11), .mov (.t 1), none⟩,
  ⟨(some 12), .bslice 1 1 [.int .i64 0] [(0, 1, (.t 11))], none⟩,
  ⟨(some 9), .mov (.t 12), none⟩] none)
 (.seq (.seq (.region [⟨(some 13), .mov (.t 1), none⟩,
  ⟨(some 10), .alloc [.int .i64 0], none⟩,
  ⟨none, .store 1 (.t 10) (.t 13), none⟩] none)
 (.block 0 (.loop b49_0)))
 (.seq (.region [⟨(some 34), .mov (.t 9), none⟩,
  ⟨(some 8), .mov (.t 34), none⟩] none)
 (.ret))))
theorem fn49 : env0.fn 49 = some ⟨35, ic49, [.t 8]⟩ := by kernel_rfl
inductive Lq (b : Nat) (hp : List (Nat × Nat × AObj)) (nx : Nat) (q : List Int) : AV → Prop
 | lit {id sp : Nat} (a : Int) (hq : q = [a]) (hl : Am.look id hp = some (sp, .cells [.int .i64 a])) (hne : id ≠ b) (hn : id < nx) : Lq b hp nx q (.ms id sp 1 0 1 (some 1))
 | gen {id sp : Nat} (hl : Am.look id hp = some (sp, .cells (q.map (AV.int .i64)))) (hne : id ≠ b) (hn : id < nx) : Lq b hp nx q (.ms id sp 1 0 q.length none)
structure Vq (v : Int) (b sb : Nat) (q : List Int) (qv : AV) (hp : List (Nat × Nat × AObj)) (nx : Nat) : Prop where
 var : Am.look b hp = some (sb, .cells [.int .i64 v])
 bn : b < nx
 lst : Lq b hp nx q qv
theorem Lq.fresh {b nx : Nat} {hp : List (Nat × Nat × AObj)} {q : List Int} {qv : AV} (h : Lq b hp nx q qv) (ck : Nat) (x : AObj) : Lq b ((nx, ck, x) :: hp) (nx + 1) q qv := by
 cases h with
 | lit a hq hl hne hn => exact .lit a hq (by rw [za9, if_neg (by omega)]; exact hl) hne (by omega)
 | gen hl hne hn => exact .gen (by rw [za9, if_neg (by omega)]; exact hl) hne (by omega)
theorem Lq.other {b b' nx : Nat} {hp : List (Nat × Nat × AObj)} {q : List Int} {qv : AV} (h : Lq b hp nx q qv) (hb : nx ≤ b') : Lq b' hp nx q qv := by
 cases h with
 | lit a hq hl hne hn => exact .lit a hq hl (by omega) hn
 | gen hl hne hn => exact .gen hl (by omega) hn
theorem Lq.put {b nx : Nat} {hp : List (Nat × Nat × AObj)} {q : List Int} {qv : AV} (h : Lq b hp nx q qv) (x : Nat × AObj) : Lq b (zbc b x hp) nx q qv := by
 cases h with
 | lit a hq hl hne hn => exact .lit a hq (by rw [za2, if_neg (fun e => hne e.symm)]; exact hl) hne hn
 | gen hl hne hn => exact .gen (by rw [za2, if_neg (fun e => hne e.symm)]; exact hl) hne hn
theorem Vq.fresh {v : Int} {b sb nx : Nat} {hp : List (Nat × Nat × AObj)} {q : List Int} {qv : AV} (h : Vq v b sb q qv hp nx) (ck : Nat) (x : AObj) : Vq v b sb q qv ((nx, ck, x) :: hp) (nx + 1) :=
 ⟨by rw [za9, if_neg (by have := h.bn; omega)]; exact h.var, by have := h.bn; omega, h.lst.fresh ck x⟩
theorem Vq.set {v : Int} {b sb nx : Nat} {hp : List (Nat × Nat × AObj)} {q : List Int} {qv : AV} (h : Vq v b sb q qv hp nx) (w : Int) : Vq w b sb q qv (zbc b (sb, .cells [.int .i64 w]) hp) nx :=
 ⟨by rw [za2, if_pos rfl], h.bn, h.lst.put _⟩
theorem Lq.view {b nx d : Nat} {S : AS} {q : List Int} {qv : AV} (h : Lq b S.heap nx q qv) : S.view (d + 1) qv = vsI q := by
 cases h with
 | lit a hq hl hne hn => subst hq; exact zd0 [a] rfl hl
 | gen hl hne hn => exact zd0 q rfl hl
theorem o_lapp {w0 : World} {N0 n d nx ck : Nat} {k : List Fr} {Q : Exit → AS → Prop} {l : List (Nat × AV)} {ios : List Opr} {v : Int} {b sb : Nat} {q : List Int} {qv : AV} {hp : List (Nat × Nat × AObj)} {bytes j sj : Nat} {x0 : Int} {z : List AV} {s x : Arg} (hF : Vq v b sb q qv hp nx) (hlen : q.length ≤ 1000000) (hs : zas s l = some qv) (hx : zas x l = some (.ms j sj 1 0 1 (some 1))) (hj : Am.look j hp = some (sj, .cells [.int .i64 x0])) (hb : bytes ≤ 16777216)
  (go : ∀ qv' hp' nx' ck', Vq v b sb (q ++ [x0]) qv' hp' nx' → Om Try.prog w0 N0 none (KnP Try.prog w0 N0) ios (st n ((d, qv') :: l) hp' nx' ck') k Q) :
  Om Try.prog w0 N0 none (KnP Try.prog w0 N0) (⟨some d, .append 1 bytes z s x, none⟩ :: ios) (st n l hp nx ck) k Q := by
 have hel : (st n l hp nx ck []).elems 1 (.ms j sj 1 0 1 (some 1)) = some [[.int .i64 x0]] := zdk (xs := [[.int .i64 x0]]) (ys := []) hj rfl fun x hx => by obtain rfl := List.mem_singleton.1 hx; rfl
 have hbn := hF.bn
 cases hF.lst with
 | @lit id sp a hq hl h1 hn =>
  subst hq
  have hi : iop (st n l hp nx ck) (.append 1 bytes z s x) = some (.ms nx ck 1 0 2 none, st n l ((nx, ck, .cells ([a, x0].map (AV.int .i64))) :: hp) (nx + 1) (ck + 1)) := by
   simp only [iop, zao, hs, hx, hel]
   unfold zb0
   rw [if_neg (show ¬ [[AV.int .i64 x0]].length = 0 from Nat.succ_ne_zero 0), if_pos (show [[AV.int .i64 x0]].flatten.all AV.isCell = true ∧ bytes ≤ 16777216 from ⟨rfl, hb⟩)]
   simp only [show (st n l hp nx ck []).heap = hp from rfl, hl]
   rw [if_pos (show True ∧ True ∧ 0 + 1 * 1 ≤ ([AV.int .i64 a]).length ∧ 1 + [[AV.int .i64 x0]].length ≤ 1048576 from ⟨trivial, trivial, Nat.le_refl 1, (by show 2 ≤ 1048576; decide)⟩), if_neg (show ¬ 1 + [[AV.int .i64 x0]].length ≤ 1 from (by show ¬ 2 ≤ 1; decide))]
   rfl
  refine ze2 hi (go _ _ _ _ ⟨by rw [za9, if_neg (by omega)]; exact hF.var, by omega, ?_⟩) (fun _ _ _ _ _ _ _ => rfl)
  exact .gen (q := [a, x0]) zaz (by omega) (by omega)
 | @gen id sp hl h1 hn =>
  refine zea [[.int .i64 x0]] hs hx hel (fun h => Nat.noConfusion h) rfl hb hl (by rw [List.length_map, Nat.mul_one]) (by show _ + 1 ≤ _; omega) ?_ (fun _ _ _ _ _ _ _ => rfl)
  refine go _ _ _ _ ⟨by rw [za2, if_neg h1]; exact hF.var, hbn, ?_⟩
  have e3 : q.map (AV.int .i64) ++ [[AV.int .i64 x0]].flatten = (q ++ [x0]).map (AV.int .i64) := by rw [List.map_append]; rfl
  rw [e3]
  have := Lq.gen (b := b) (hp := zbc id (ck, .cells ((q ++ [x0]).map (AV.int .i64))) hp) (nx := nx) (q := q ++ [x0]) (id := id) (sp := ck) (by rw [za2, if_pos rfl]) h1 hn
  rw [List.length_append] at this
  exact this
theorem view_cap {S : AS} {b sb d : Nat} {v : Int} (h : Am.look b S.heap = some (sb, .cells [.int .i64 v])) (hn : b < S.next) : S.view (d + 1) (.mptr b sb 0) = .vptr [.int .i64 v] := by
 simp only [AS.view, zk6 (off := 0) (v := .int .i64 v) (ws := []) h hn rfl]
 cases d <;> rfl
def iL (l : List Nat) : List Int := l.map fun w => ((w : Nat) : Int)
set_option maxHeartbeats 4000000 in
theorem led49 (m : Nat) (hm : m ≤ 256) (E : List (Nat × Nat)) (hb : ∀ u v, (u, v) ∈ E → u < m ∧ v < m) (f t : Nat) (hf : f < m) (ht : t < m) (back : List Int) (hL : Lab (rvE E) m t back) (h0 : 0 ≤ gI back f) :
  PF Try.prog 49 [cN E m, .int .i64 (f : Nat), .int .i64 (t : Nat), vsI back] (vsI (iL (f :: zen E m back (gI back f).toNat f))) := by
 have hbt : ∀ v, gI back v < m := zp4 hL.len hL.down
 have hlen : ((List.range m).map fun v => ([vN (nbr E m v)] : List AV)).length = m := by rw [List.length_map, List.length_range]
 refine zbg env0_ok fn49 [(0, cN E m), (1, .int .i64 (f : Nat)), (2, .int .i64 (t : Nat)), (3, vsI back)] (by show 4 ≤ 35; decide) rfl fun w0 N0 => ?_
 unfold ic49
 refine za7 (za0 rfl (zel rfl rfl (za5 rfl (za6 (za4 ?_)))))
 refine zb6 [] [(0, 0, [vsI back])] [(0, cN E m), (1, .int .i64 (f : Nat)), (2, .int .i64 (t : Nat)), (7, .vptr [vsI back])] rfl (.cons rfl rfl .nil) .nil (.cons rfl (.same rfl) (.cons rfl (.same rfl) (.cons rfl (.same rfl) (.cons rfl (.fptr rfl rfl) .nil)))) ?_
 repeat (first | refine za7 ?_ | refine za0 rfl ?_ | refine za6 ?_ | refine za4 ?_ | refine zac ?_ | refine za5 rfl ?_ | refine zbx rfl rfl rfl rfl rfl rfl rfl ?_ | refine zcd ?_ | refine zbr rfl rfl ?_)
 have hK : (iL (f :: zen E m back (gI back f).toNat f)).length ≤ 257 := by
  have := hbt f
  unfold iL
  rw [List.length_map, List.length_cons, zio]
  omega
 generalize hT : iL (f :: zen E m back (gI back f).toNat f) = T at *
 refine zc1 (fun mm S => ∃ v q qv b sb hp nx ck, mm = (gI back v).toNat ∧ v < m ∧ 0 ≤ gI back v ∧ q ++ iL (zen E m back (gI back v).toNat v) = T ∧ Vq (v : Nat) b sb q qv hp nx ∧ S = st 35 [(0, cN E m), (2, .int .i64 (t : Nat)), (7, .vptr [vsI back]), (9, qv), (10, .mptr b sb 0)] hp nx ck) (gI back f).toNat
  (zaa (.cons rfl (.cons rfl (.cons rfl (.cons rfl (.cons rfl .nil)))))) ⟨f, [(f : Nat)], .ms 0 1 1 0 1 (some 1), 1, 2, _, _, _, rfl, hf, h0, hT, ⟨rfl, Nat.lt_succ_self 1, .lit _ rfl rfl (by decide) (by decide)⟩, rfl⟩ ?_
 rintro mm S ⟨v, q, qv, b, sb, hp, nx, ck, rfl, hv, h1, hq, hF, rfl⟩
 have hql : q.length ≤ 257 := by
  rw [← hq, List.length_append] at hK
  omega
 unfold b49_0
 repeat (first | refine za7 ?_ | refine za0 rfl ?_)
 refine zaj (id := b) (sp := sb) (off := 0) rfl hF.var hF.bn rfl ?_
 repeat (first | refine za5 rfl ?_)
 refine zax rfl rfl rfl (fun h3 => ?_) fun h3 => ?_
 ·have hne : ¬ ((v : Nat) : Int) = ((t : Nat) : Int) := by simpa using h3
  have hpos : 0 < gI back v := by
   have : gI back v ≠ 0 := fun e => hne (by rw [hL.root v e])
   omega
  obtain ⟨hfi, hed, hwm, hbw⟩ := nxt_ok hL hb hpos
  obtain ⟨kk, hkl, hke, hkp, hkn⟩ := zow hfi
  have hrs : zen E m back (gI back v).toNat v = nxt E m back v :: zen E m back (gI back (nxt E m back v)).toNat (nxt E m back v) := by
   obtain ⟨k, hk⟩ : ∃ k : Nat, gI back v = ((k + 1 : Nat) : Int) := ⟨(gI back v).toNat - 1, by omega⟩
   have e1 : (gI back v).toNat = k + 1 := by omega
   have e2 : (gI back (nxt E m back v)).toNat = k := by omega
   rw [e1, e2, zen]
  have hnl : (nbr E m v).length ≤ m := by
   unfold nbr
   exact Nat.le_trans (List.length_filter_le ..) (by rw [List.length_range]; exact Nat.le_refl _)
  have p66 := index66 back (nbr E m v) v (by omega) (fun w hw => by rw [hL.len]; exact (hb _ _ ((zc3 fun u v h => (hb u v h).2).1 hw)).2) (by rw [hL.len]; exact hv) (hL.low v) (by have := hbt v; omega) kk hkl (by rw [hke]; exact hkp) hkn
  have hgN : ((List.range m).map fun v => ([vN (nbr E m v)] : List AV))[((v : Nat) : Int).toNat]? = some [vN (nbr E m v)] := by
   rw [Int.toNat_natCast, List.getElem?_map, List.getElem?_range hv]
   rfl
  have hgk := zjs hkl
  rw [hke] at hgk
  generalize nxt E m back v = w at *
  generalize nbr E m v = l at *
  have hldb : Nat.beq b b = true := Nat.beq_refl b
  have hvw : ∀ L : List (Nat × AV), [vN l, .fn 67 [] [.vptr [vsI back], .mptr b sb 0]].map ((st 35 L hp nx ck []).view VD) = [vN l, .fn 67 [] [.vptr [vsI back], .vptr [.int .i64 (v : Nat)]]] := fun L => by
   show [vN l, AV.fn 67 [] [.vptr [vsI back], (st 35 L hp nx ck []).view 3 (.mptr b sb 0)]] = _
   rw [view_cap hF.var hF.bn]
  repeat (first | refine za7 ?_ | refine za6 ?_ | refine za4 ?_ | refine zac ?_ | refine zal ?_ | refine zd2 rfl ?_)
  refine z_cut env0_ok 12 [(66, [vN l, .fn 67 [] [.vptr [vsI back], .vptr [.int .i64 (v : Nat)]]], .int .i64 (kk : Nat))] (fun x hx => by
   obtain rfl := List.mem_singleton.1 hx
   exact p66) (fun f => Nat.beq f 66) (fun i => Nat.beq i b) (fun i => !(Nat.beq i b)) (fun i h1 h2 => by rw [h1] at h2; cases h2) rfl rfl rfl rfl ?_
  show Om _ _ _ _ _ [_, _, _, _, _, _, _, _, _, _, _, _] _ _ _
  refine za5 rfl ?_
  refine zaj (id := b) (sp := sb) (off := 0) rfl hF.var hF.bn rfl ?_ (zts rfl hldb)
  refine zay rfl rfl (Int.natCast_nonneg v) hgN rfl ?_
  refine zad rfl rfl ?_
  refine za5 rfl ?_
  refine zaj (id := b) (sp := sb) (off := 0) rfl hF.var hF.bn rfl ?_ (zts rfl hldb)
  refine zay rfl rfl (Int.natCast_nonneg v) hgN rfl ?_
  refine zad rfl rfl ?_
  refine zpe rfl rfl ?_
  refine zb3 rfl (hvw _) zdg (fun _ => rfl) ?_
  refine zay rfl rfl (Int.natCast_nonneg kk) hgk rfl ?_
  refine zad rfl rfl ?_
  refine za6 (zau ⟨rfl, fun rd => ?_⟩)
  refine AnyF.one 12 rfl (zlc (i := 12) rfl (zg8 (id := b) (sp := sb) (off := 0) rfl rfl rfl rfl hF.var rfl rfl) ?_)
  have hF2 : Vq (w : Nat) b sb q qv (zbc b (sb, .cells [.int .i64 (w : Nat)]) hp) nx := hF.set _
  refine AnyF.fin rfl (Um.ok (za4 ?_))
  repeat (first | refine za0 rfl ?_ | refine za5 rfl ?_)
  refine zaj (id := b) (sp := sb) (off := 0) rfl hF2.var hF2.bn rfl ?_
  repeat (first | refine zbr rfl rfl ?_)
  have hF3 := hF2.fresh ck (.cells [.int .i64 (w : Nat)])
  refine o_lapp hF3 (by omega) rfl rfl zaz (by decide) fun qv' hp' nx' ck' hF4 => ?_
  repeat (first | refine za7 ?_ | refine za0 rfl ?_ | refine za6 ?_ | refine za4 ?_ | refine zc5 ?_ | refine za5 rfl ?_)
  refine zaj (id := b) (sp := sb) (off := 0) rfl hF4.var hF4.bn rfl ?_
  repeat (first | refine za0 rfl ?_ | refine za6 ?_ | refine za4 ?_ | refine zcd ?_)
  refine zbx (id := nx') (sp := ck') (off := 0) rfl rfl rfl rfl zaz rfl rfl ?_
  repeat (first | refine za6 ?_)
  refine zar (show (gI back w).toNat < (gI back v).toNat by omega) (zaa (.cons rfl (.cons rfl (.cons rfl (.cons rfl (.cons rfl .nil)))))) ⟨w, q ++ [((w : Nat) : Int)], qv', nx', ck', _, _, _, rfl, hwm, by omega, ?_, ⟨by rw [za2, if_pos rfl]; rfl, Nat.lt_succ_self _, ?_⟩, rfl⟩
  ·rw [← hq, hrs, List.append_assoc]
   rfl
  ·exact ((hF4.lst.other (Nat.le_refl _)).fresh ck' (.cells [.int .i64 0])).put _
 ·have hvt : ((v : Nat) : Int) = ((t : Nat) : Int) := by simpa using h3
  have hv2 : v = t := Int.ofNat_inj.1 hvt
  subst hv2
  rw [hL.zero] at hq
  have hq : q = T := by simpa [zen, iL] using hq
  repeat (first | refine za6 ?_ | refine za4 ?_ | refine zd5 rfl ?_ | refine zc0 ?_ | refine zag ?_)
  refine zdj ?_
  repeat (first | refine za7 ?_ | refine za0 rfl ?_ | refine za6 ?_ | refine za4 ?_ | refine zb2 ?_ | refine zby ?_ | refine za5 rfl ?_)
  refine zau ⟨.inr rfl, _, rfl, ?_⟩
  rw [← hq]
  exact hF.lst.view
end Go.Proofs.Ytoagikifehmlpaa
namespace Go.Proofs.Ytoagikifehmlpaa
open Go Go.Am
-- (pneumatic/digraph.net).sorted
def nxV : Option Nat → Int
 | some u => (u : Nat)
 | none => -1
theorem zv9 {α β : Type} (f : β → α → β) (o : β) {l : List α} {i : Nat} (h : i < l.length) : (l.take (i + 1)).foldl f o = f ((l.take i).foldl f o) l[i] := by
 rw [List.take_add_one, List.getElem?_eq_getElem h, List.foldl_append]
 rfl
theorem zih (E : List (Nat × Nat)) (m v : Nat) : (nbr E m v).length ≤ m := by
 unfold nbr
 exact Nat.le_trans (List.length_filter_le ..) (by rw [List.length_range]; exact Nat.le_refl _)
theorem zoi {E : List (Nat × Nat)} {m v : Nat} (hv : v < m) : ((List.range m).map fun v => ([vN (nbr E m v)] : List AV))[((v : Nat) : Int).toNat]? = some [vN (nbr E m v)] := by
 rw [Int.toNat_natCast, List.getElem?_map, List.getElem?_range hv]
 rfl
theorem zgm (l : List Nat) : (iL l).length = l.length := List.length_map ..
theorem zt7 (l : List Nat) (v : Nat) : iL (l ++ [v]) = iL l ++ [((v : Nat) : Int)] := by
 unfold iL
 rw [List.map_append]
 rfl
end Go.Proofs.Ytoagikifehmlpaa
namespace Go.Proofs.Ytoagikifehmlpaa
open Go Go.Am
def unF (s : List Bool) : Nat := (s.filter fun b => !b).length
theorem zl2 : ∀ {s : List Bool} {v : Nat}, v < s.length → gB s v = false → unF (s.set v true) + 1 = unF s
 | [], _, h, _ => absurd h (Nat.not_lt_zero _)
 | x :: s, 0, _, h => by
  have hx : x = false := h
  subst hx
  rfl
 | x :: s, v + 1, hv, h => by
  have ih := zl2 (s := s) (v := v) (by simpa using hv) h
  unfold unF at ih ⊢
  rw [List.set_cons_succ, List.filter_cons, List.filter_cons]
  cases x with
  | true => exact ih
  | false =>
   rw [if_pos (show (!false) = true from rfl), if_pos (show (!false) = true from rfl), List.length_cons, List.length_cons]
   omega
theorem zvb : ∀ (D : List Nat) (s : List Bool), D.Nodup → (∀ d ∈ D, d < s.length ∧ gB s d = false) → unF (mrk s D) + D.length = unF s
 | [], _, _, _ => rfl
 | d :: D, s, hn, h => by
  obtain ⟨h1, h2⟩ := List.nodup_cons.1 hn
  obtain ⟨a, b⟩ := h d (List.mem_cons_self ..)
  have ih := zvb D (s.set d true) h2 fun x hx => by
   obtain ⟨c, e⟩ := h x (List.mem_cons_of_mem _ hx)
   refine ⟨by rw [List.length_set]; exact c, ?_⟩
   rw [zt0 a, e, Bool.false_or]
   exact beq_eq_false_iff_ne.2 fun e => h1 (e ▸ hx)
  have := zl2 a b
  show unF (mrk (s.set d true) D) + (D.length + 1) = _
  omega
theorem zvj {E : List (Nat × Nat)} {m : Nat} (hb : ∀ u v, (u, v) ∈ E → u < m ∧ v < m) {s : List Bool} {l D : List Nat} (h : Vis E m s l D) (hs : s.length = m) (hl : ∀ y ∈ l, y < m) : unF (mrk s D) + D.length = unF s := by
 have P := zvi hb h hs hl
 exact zvb D s P.nd fun d hd => ⟨by rw [hs]; exact P.lt d hd, P.new d hd⟩
theorem gB_get {s : List Bool} {v : Nat} (h : v < s.length) : (s.map AV.bool)[v]? = some (.bool (gB s v)) := by
 unfold gB
 rw [List.getElem?_map, List.getD_eq_getElem?_getD, List.getElem?_eq_getElem h]
 rfl
theorem zu1 (v : Nat) : ∀ (D : List Nat) (s : List Bool), mrk (s.set v true) D = (mrk s D).set v true
 | [], _ => rfl
 | d :: D, s => by
  show mrk ((s.set v true).set d true) D = (mrk (s.set d true) D).set v true
  rw [← zu1 v D]
  congr 1
  by_cases e : v = d
  ·rw [e]
  ·exact List.set_comm _ _ e
theorem mrk_snoc (s : List Bool) (D : List Nat) (v : Nat) : mrk s (D ++ [v]) = mrk (s.set v true) D := by
 rw [znq, zu1]
 rfl
theorem zvh {E : List (Nat × Nat)} {m : Nat} {s : List Bool} {l D : List Nat} (h : Vis E m s l D) : l = [] → D = [] := by
 cases h with
 | nil => exact fun _ => rfl
 | skip => exact fun e => by simp at e
 | go => exact fun e => by simp at e
theorem zpw {l : List Nat} {x y : Nat} (e : l ++ [x] = [y]) : l = [] ∧ x = y := by
 cases l with
 | nil => injection e with e; exact ⟨rfl, e⟩
 | cons a l =>
  injection e with _ e
  simp at e
theorem vis_one {E : List (Nat × Nat)} {m : Nat} {s : List Bool} {l D : List Nat} {y : Nat} (h : Vis E m s l D) : l = [y] → (D = [] ∧ gB s y = true) ∨ ∃ D', D = D' ++ [y] ∧ gB s y = false ∧ Vis E m (s.set y true) (nbr E m y) D' := by
 cases h with
 | nil => exact fun e => by cases e
 | skip h hx =>
  intro e
  obtain ⟨e1, e2⟩ := zpw e
  obtain rfl := zvh h e1
  subst e2
  exact .inl ⟨rfl, hx⟩
 | go h hx h' =>
  intro e
  obtain ⟨e1, e2⟩ := zpw e
  obtain rfl := zvh h e1
  subst e2
  exact .inr ⟨_, rfl, hx, h'⟩
theorem Vis.snoc {E : List (Nat × Nat)} {m : Nat} {s : List Bool} {l D D2 : List Nat} {y : Nat} (h : Vis E m s l D) (h2 : Vis E m (mrk s D) [y] D2) : Vis E m s (l ++ [y]) (D ++ D2) := by
 rcases vis_one h2 rfl with ⟨rfl, hg⟩ | ⟨D', rfl, hg, h3⟩
 ·rw [List.append_nil]
  exact .skip h hg
 ·exact .go h hg h3
theorem iL_app (a b : List Nat) : iL (a ++ b) = iL a ++ iL b := List.map_append ..
structure VM (E : List (Nat × Nat)) (m sa ss sw sc : Nat) (sn : List Bool) (q : List Int) (hp : List (Nat × Nat × AObj)) (nx : Nat) : Prop where
 ha : Am.look 0 hp = some (sa, .cells [.ms 1 ss 1 0 m (some m)])
 hs : Am.look 1 hp = some (ss, .cells (sn.map AV.bool))
 hw : Am.look 2 hp = some (sw, .cells [.fn 60 [] [.mptr 0 sa 0, .vptr [cN E m], .mptr 2 sw 0, .mptr 3 sc 0]])
 hc : ∃ qv, Am.look 3 hp = some (sc, .cells [qv]) ∧ Gv 3 q qv hp nx
 nx : 3 < nx
theorem VM.set {E : List (Nat × Nat)} {m sa ss sw sc nx : Nat} {sn : List Bool} {q : List Int} {hp : List (Nat × Nat × AObj)} (h : VM E m sa ss sw sc sn q hp nx) (v : Nat) : VM E m sa ss sw sc (sn.set v true) q (zbc 1 (ss, .cells ((sn.map AV.bool).set v (.bool true))) hp) nx := by
 obtain ⟨qv, hc, hG⟩ := h.hc
 exact ⟨by rw [za2, if_neg (by decide)]; exact h.ha, by rw [za2, if_pos rfl, ← List.map_set], by rw [za2, if_neg (by decide)]; exact h.hw, ⟨qv, by rw [za2, if_neg (by decide)]; exact hc, hG.put (by decide) _⟩, h.nx⟩
theorem Gv.cell {b nx : Nat} {q : List Int} {w : AV} {hp : List (Nat × Nat × AObj)} (h : Gv b q w hp nx) : w.isCell = true ∧ w.cells? = some [w] := by
 rcases h with ⟨rfl, rfl⟩ | ⟨id, sp, rfl, _, _, _⟩
 ·exact ⟨rfl, rfl⟩
 ·exact ⟨rfl, rfl⟩
def b60_0 : IC := .seq (.region [⟨(some 21), .bin .lss (.t 20) (.t 19), none⟩] none)
 (.seq (.cond (.t 21) (.skip)
 (.exit 0))
 (.seq (.block 1 (.seq (.region [⟨(some 22), .idxs 1 (.t 18) (.t 20), none⟩,
  ⟨(some 23), .load none (.t 22), none⟩,
  ⟨(some 7), .mov (.t 23), none⟩] none)
 (.region [⟨(some 24), .load none (.t 3), none⟩,
  ⟨(some 25), .mov (.t 7), none⟩,
  ⟨(some 26), .call (.t 24) [(.t 25)], none⟩] none)))
 (.region [⟨(some 27), .bin .add (.t 20) (.c (.int .i64 1)), none⟩,
  ⟨(some 20), .mov (.t 27), none⟩] none)))
-- pneumatic/digraph.components$1
def ic60 : IC := .seq (.seq (.region [⟨(some 8), .load none (.t 1), none⟩,
  ⟨(some 9), .mov (.t 0), none⟩,
  ⟨(some 10), .idxs 1 (.t 8) (.t 9), none⟩,
  ⟨(some 11), .load none (.t 10), none⟩] none)
 (.cond (.t 11) (.ret)
 (.skip)))
 (.seq (.region [⟨(some 12), .load none (.t 1), none⟩,
  ⟨(some 13), .mov (.t 0), none⟩,
  ⟨(some 14), .idxs 1 (.t 12) (.t 13), none⟩,
  ⟨none, .store 1 (.t 14) (.c (.bool true)), none⟩] none)
 (.seq (.seq (.region [⟨(some 15), .load none (.t 2), none⟩,
  ⟨(some 16), .mov (.t 0), none⟩,
  ⟨(some 17), .idxs 1 (.t 15) (.t 16), none⟩,
  ⟨(some 18), .load none (.t 17), none⟩,
  ⟨(some 19), .len false (.t 18), none⟩,
  ⟨(some 20), .mov (.c (.int .i64 0)), none⟩] none)
 (.block 0 (.loop b60_0)))
 (.region [⟨(some 28), .load none (.t 4), none⟩,
  ⟨(some 29), .mov (.t 0), none⟩,
  ⟨(some 30), .bslice 1 1 [.int .i64 0] [(0, 1, (.t 29))], none⟩,
  ⟨(some 31), .append 1 8 [.int .i64 0] (.t 28) (.t 30), none⟩,
  ⟨none, .store 1 (.t 4) (.t 31), none⟩] none)))
theorem fn60 : env0.fn 60 = some ⟨32, ic60, []⟩ := by kernel_rfl
set_option maxHeartbeats 4000000 in
theorem visit60 (m : Nat) (hm : m ≤ 256) (E : List (Nat × Nat)) (hb : ∀ u v, (u, v) ∈ E → u < m ∧ v < m) (w0 : World) (N0 sa ss sw sc : Nat) : ∀ (k : Nat) (sn : List Bool) (q : List Int) (v : Nat) (H : HS), unF sn < k → sn.length = m → v < m → q.length + unF sn ≤ m → VM E m sa ss sw sc sn q H.heap H.next →
  FT Try.prog w0 N0 60 [.int .i64 (v : Nat), .mptr 0 sa 0, .vptr [cN E m], .mptr 2 sw 0, .mptr 3 sc 0] H fun _ H' => ∃ D, Vis E m sn [v] D ∧ VM E m sa ss sw sc (mrk sn D) (q ++ iL D) H'.heap H'.next := by
 have ez : ∀ o : Nat, 0 + ((o : Nat) : Int).toNat * 1 = o := fun o => by simp
 have hb2 := fun u v h => (hb u v h).2
 intro k
 induction k with
 | zero => exact fun sn q v H h => absurd h (Nat.not_lt_zero _)
 | succ k ih =>
 intro sn q v H hun hsn hv hq hM
 refine zmn env0_ok fn60 [(0, .int .i64 (v : Nat)), (1, .mptr 0 sa 0), (2, .vptr [cN E m]), (3, .mptr 2 sw 0), (4, .mptr 3 sc 0)] (by show 5 ≤ 32; decide) rfl ?_
 obtain ⟨hp, nx, ck⟩ := H
 have hM : VM E m sa ss sw sc sn q hp nx := hM
 have hnx := hM.nx
 show Zm _ _ _ _ _ (st 32 _ hp nx ck) _ _
 unfold ic60
 repeat (first | refine za7 ?_ | refine za0 rfl ?_)
 refine zaj (id := 0) (sp := sa) (off := 0) rfl hM.ha (by omega) rfl ?_
 repeat (first | refine za5 rfl ?_ | refine zb7 rfl rfl (by omega) (by omega) ?_)
 rw [ez]
 refine zaj (id := 1) (sp := ss) (off := v) rfl hM.hs (by omega) (gB_get (by omega)) ?_
 cases hg : gB sn v with
 | true =>
  repeat (first | refine za6 ?_ | refine za4 ?_ | refine zd2 rfl ?_ | refine zb2 ?_ | refine zan ?_)
  refine zau ⟨.inr rfl, _, rfl, [], .skip (l := []) (.nil sn) hg, ?_⟩
  rw [show q ++ iL [] = q from List.append_nil q]
  exact hM
 | false =>
  have hun2 := zl2 (by rw [hsn]; exact hv) hg
  have hM2 := hM.set v
  have hgN := zoi (E := E) hv
  have hin : ∀ w ∈ nbr E m v, w < m := fun w hw => hb2 _ _ ((zc3 hb2).1 hw)
  have hnl := zih E m v
  repeat (first | refine za7 ?_ | refine za0 rfl ?_ | refine za6 ?_ | refine za4 ?_ | refine zal ?_ | refine zd5 rfl ?_)
  refine zaj (id := 0) (sp := sa) (off := 0) rfl hM.ha (by omega) rfl ?_
  repeat (first | refine za5 rfl ?_ | refine zb7 rfl rfl (by omega) (by omega) ?_)
  rw [ez]
  refine zbs (id := 1) (sp := ss) (off := v) rfl rfl rfl hM.hs (by simp; omega) rfl ?_
  repeat (first | refine za7 ?_ | refine za0 rfl ?_ | refine za6 ?_ | refine za4 ?_ | refine zac ?_ | refine za5 rfl ?_ | refine zad rfl rfl ?_ | refine zc4 rfl rfl ?_ | refine zay rfl rfl (by omega) (by assumption) rfl ?_)
  have hvis : ∀ D, Vis E m (sn.set v true) (nbr E m v) D → Vis E m sn [v] (D ++ [v]) := fun D h => .go (l := []) (D := []) (.nil sn) hg h
  generalize hl : nbr E m v = l at *
  refine zc1 (fun mm S => ∃ j D hp nx ck, mm = l.length - j ∧ j ≤ l.length ∧ Vis E m (sn.set v true) (l.take j) D ∧ VM E m sa ss sw sc (mrk (sn.set v true) D) (q ++ iL D) hp nx ∧ S = st 32 [(0, .int .i64 (v : Nat)), (3, .mptr 2 sw 0), (4, .mptr 3 sc 0), (18, vN l), (19, .int .i64 ((l.map fun w => ([.int .i64 (w : Nat)] : List AV)).length : Nat)), (20, .int .i64 (j : Nat))] hp nx ck) l.length
   (zaa (.cons rfl (.cons rfl (.cons rfl (.cons rfl (.cons rfl (.cons rfl .nil))))))) ⟨0, [], _, _, _, rfl, Nat.zero_le _, .nil _, by rw [show q ++ iL [] = q from List.append_nil q]; exact hM2, rfl⟩ ?_
  rintro mm S ⟨j, D, hp, nx, ck, rfl, hj, hV, hM, rfl⟩
  have hnx := hM.nx
  have hvu := zvj hb hV (by rw [List.length_set, hsn]) fun y hy => hin y (List.mem_of_mem_take hy)
  have hml : (mrk (sn.set v true) D).length = m := by rw [zig, List.length_set, hsn]
  have hqd : (q ++ iL D).length = q.length + D.length := by rw [List.length_append, zgm]
  unfold b60_0
  repeat (first | refine za7 ?_ | refine za0 rfl ?_)
  refine zax rfl rfl rfl (fun h4 => ?_) fun h4 => ?_
  ·have hlt2 : j < l.length := by
    have h5 : ((j : Nat) : Int) < (((l.map fun w => ([.int .i64 (w : Nat)] : List AV)).length : Nat) : Int) := of_decide_eq_true h4
    rw [List.length_map] at h5
    exact Int.ofNat_lt.1 h5
   have w2 : IntKind.wrap .i64 (((j : Nat) : Int) + 1) = ((j + 1 : Nat) : Int) := zap j (by omega)
   have hgv := zjs hlt2
   have hym := hin l[j] (List.getElem_mem hlt2)
   have hts : l.take (j + 1) = l.take j ++ [l[j]] := by rw [List.take_add_one, List.getElem?_eq_getElem hlt2]; rfl
   generalize l[j] = y at *
   have hft := ih (mrk (sn.set v true) D) (q ++ iL D) y ⟨hp, nx, ck⟩ (by omega) hml hym (by omega) hM
   repeat (first | refine za7 ?_ | refine za0 rfl ?_ | refine za6 ?_ | refine za4 ?_ | refine zac ?_ | refine zal ?_ | refine zd2 rfl ?_ | refine za5 rfl ?_ | refine zad rfl rfl ?_ | refine zay rfl rfl (by omega) (by assumption) rfl ?_)
   refine zaj (id := 2) (sp := sw) (off := 0) rfl hM.hw (by omega) rfl ?_
   repeat (first | refine za5 rfl ?_)
   refine o_ct _ rfl rfl (zsh hft) (fun v H _ m hm => absurd hm List.not_mem_nil) fun r H' hF => ?_
   obtain ⟨D2, hV2, hM2⟩ := hF
   obtain ⟨hp', nx', ck'⟩ := H'
   show Om _ _ _ _ _ _ (st 32 _ hp' nx' ck') _ _
   have hV3 : Vis E m (sn.set v true) (l.take (j + 1)) (D ++ D2) := by rw [hts]; exact hV.snoc hV2
   repeat (first | refine za0 rfl ?_ | refine za6 ?_ | refine za4 ?_ | refine zc5 ?_ | refine za5 rfl ?_ | refine zbp (op := .add) rfl rfl rfl ?_)
   rw [w2]
   refine zar (show l.length - (j + 1) < l.length - j by omega) (zaa (.cons rfl (.cons rfl (.cons rfl (.cons rfl (.cons rfl (.cons rfl .nil))))))) ⟨j + 1, D ++ D2, _, _, _, rfl, hlt2, hV3, ?_, rfl⟩
   rw [znq, iL_app, ← List.append_assoc]
   exact hM2
  ·have hje : j = l.length := by
    have h5 : ¬ ((j : Nat) : Int) < (((l.map fun w => ([.int .i64 (w : Nat)] : List AV)).length : Nat) : Int) := of_decide_eq_false h4
    rw [List.length_map] at h5
    omega
   subst hje
   rw [List.take_length] at hV
   obtain ⟨qv, hc, hG⟩ := hM.hc
   repeat (first | refine za7 ?_ | refine za6 ?_ | refine za4 ?_ | refine zd5 rfl ?_ | refine zc0 ?_ | refine zag ?_)
   refine zdj ?_
   repeat (first | refine za0 rfl ?_ | refine za4 ?_ | refine zby ?_)
   refine zaj (id := 3) (sp := sc) (off := 0) rfl hc (by omega) rfl ?_
   repeat (first | refine za5 rfl ?_ | refine zbr rfl rfl ?_)
   refine o_gapp (hG.fresh ck (.cells [.int .i64 (v : Nat)])) (by omega) (by omega) rfl rfl zaz (by decide) fun w2 hp2 nx2 ck2 hG3 hnx2 hkp => ?_
   have hk : ∀ i, i ≤ 3 → Am.look i hp2 = Am.look i hp := fun i hi => by rw [hkp i hi, za9, if_neg (by omega)]
   refine zbs (id := 3) (sp := sc) (off := 0) rfl rfl hG3.cell.2 ((hk 3 (by omega)).trans hc) (by simp) hG3.cell.1 ?_
   repeat (first | refine za6 ?_)
   refine zau ⟨.inl rfl, _, rfl, D ++ [v], hvis D hV, ?_⟩
   show VM _ _ _ _ _ _ _ _ (zbc 3 _ hp2) nx2
   rw [mrk_snoc, zt7, ← List.append_assoc]
   refine ⟨by rw [za2, if_neg (by decide), hk 0 (by omega)]; exact hM.ha, ?_, by rw [za2, if_neg (by decide), hk 2 (by omega)]; exact hM.hw, ⟨w2, by rw [za2, if_pos rfl]; rfl, hG3.put (by decide) _⟩, hnx2⟩
   rw [za2, if_neg (by decide), hk 1 (by omega)]
   exact hM.hs
end Go.Proofs.Ytoagikifehmlpaa
namespace Go.Proofs.Ytoagikifehmlpaa
open Go Go.Am
structure GM (E : List (Nat × Nat)) (m : Nat) (g : List Int) (hp : List (Nat × Nat × AObj)) (nx : Nat) : Prop where
 h0 : Am.look 0 hp = some (0, .cells [.ms 1 0 1 0 m (some m)])
 h1 : Am.look 1 hp = some (0, .cells (g.map (AV.int .i64)))
 h2 : Am.look 2 hp = some (0, .cells [.fn 62 [] [.mptr 0 0 0, .vptr [cN E m], .mptr 2 0 0]])
 nx : 2 < nx
theorem GM.keep {E : List (Nat × Nat)} {m : Nat} {g : List Int} {H H' : HS} (h : GM E m g H.heap H.next) (k : Keep (fun j => 2 < j) H H') : GM E m g H'.heap H'.next := by
 have := h.nx
 have := k.next
 exact ⟨(k.look 0 (by decide) (by omega)).trans h.h0, (k.look 1 (by decide) (by omega)).trans h.h1, (k.look 2 (by decide) (by omega)).trans h.h2, by omega⟩
theorem zpv (k : Int) (v : Nat) : ∀ (D : List Nat) (g : List Int), zit k (g.set v k) D = (zit k g D).set v k
 | [], _ => rfl
 | d :: D, g => by
  show zit k ((g.set v k).set d k) D = (zit k (g.set d k) D).set v k
  rw [← zpv k v D]
  congr 1
  by_cases e : v = d
  ·rw [e]
  ·exact List.set_comm _ _ e
theorem zpu (k : Int) (g : List Int) (A B : List Nat) : zit k g (A ++ B) = zit k (zit k g A) B := List.foldl_append ..
theorem zv1 (k : Int) (g : List Int) (D : List Nat) (v : Nat) : zit k g (D ++ [v]) = zit k (g.set v k) D := by
 rw [zpu, zpv]
 rfl
theorem bs_set {k : Int} (hk : 0 ≤ k) (g : List Int) (v : Nat) : bsG (g.set v k) = (bsG g).set v true := zoh hk [v] g
theorem bs_len (g : List Int) : (bsG g).length = g.length := List.length_map ..
def b62_0 : IC := .seq (.region [⟨(some 24), .bin .lss (.t 23) (.t 22), none⟩] none)
 (.seq (.cond (.t 24) (.skip)
 (.exit 0))
 (.seq (.block 1 (.seq (.region [⟨(some 25), .idxs 1 (.t 21) (.t 23), none⟩,
  ⟨(some 26), .load none (.t 25), none⟩,
  ⟨(some 8), .mov (.t 26), none⟩] none)
 (.region [⟨(some 27), .load none (.t 4), none⟩,
  ⟨(some 28), .mov (.t 8), none⟩,
  ⟨(some 29), .mov (.t 1), none⟩,
  ⟨(some 30), .call (.t 27) [(.t 28), (.t 29)], none⟩] none)))
 (.region [⟨(some 31), .bin .add (.t 23) (.c (.int .i64 1)), none⟩,
  ⟨(some 23), .mov (.t 31), none⟩] none)))
-- pneumatic/digraph.components$2
def ic62 : IC := .seq (.seq (.region [⟨(some 9), .load none (.t 2), none⟩,
  ⟨(some 10), .mov (.t 0), none⟩,
  ⟨(some 11), .idxs 1 (.t 9) (.t 10), none⟩,
  ⟨(some 12), .load none (.t 11), none⟩,
  ⟨(some 13), .bin .geq (.t 12) (.c (.int .i64 0)), none⟩] none)
 (.cond (.t 13) (.ret)
 (.skip)))
 (.seq (.region [⟨(some 14), .load none (.t 2), none⟩,
  ⟨(some 15), .mov (.t 0), none⟩,
  ⟨(some 16), .mov (.t 1), none⟩,
  ⟨(some 17), .idxs 1 (.t 14) (.t 15), none⟩,
  ⟨none, .store 1 (.t 17) (.t 16), none⟩] none)
 (.seq (.region [⟨(some 18), .load none (.t 3), none⟩,
  ⟨(some 19), .mov (.t 0), none⟩,
  ⟨(some 20), .idxs 1 (.t 18) (.t 19), none⟩,
  ⟨(some 21), .load none (.t 20), none⟩,
  ⟨(some 22), .len false (.t 21), none⟩,
  ⟨(some 23), .mov (.c (.int .i64 0)), none⟩] none)
 (.block 0 (.loop b62_0))))
theorem fn62 : env0.fn 62 = some ⟨32, ic62, []⟩ := by kernel_rfl
set_option maxHeartbeats 4000000 in
theorem zsb (m : Nat) (hm : m ≤ 256) (E : List (Nat × Nat)) (hb : ∀ u v, (u, v) ∈ E → u < m ∧ v < m) (w0 : World) (N0 : Nat) (k : Nat) : ∀ (n : Nat) (g : List Int) (v : Nat) (H : HS), unF (bsG g) < n → g.length = m → v < m → GM E m g H.heap H.next →
  FT Try.prog w0 N0 62 [.int .i64 (v : Nat), .int .i64 (k : Nat), .mptr 0 0 0, .vptr [cN E m], .mptr 2 0 0] H fun _ H' => ∃ D, Vis E m (bsG g) [v] D ∧ GM E m (zit (k : Int) g D) H'.heap H'.next ∧ Keep (fun j => j = 1) H H' := by
 have ez : ∀ o : Nat, 0 + ((o : Nat) : Int).toNat * 1 = o := fun o => by simp
 have hb2 := fun u v h => (hb u v h).2
 have hk0 : (0 : Int) ≤ (k : Nat) := Int.natCast_nonneg k
 intro n
 induction n with
 | zero => exact fun g v H h => absurd h (Nat.not_lt_zero _)
 | succ n ih =>
 intro g v H hun hgl hv hM
 refine zmn env0_ok fn62 [(0, .int .i64 (v : Nat)), (1, .int .i64 (k : Nat)), (2, .mptr 0 0 0), (3, .vptr [cN E m]), (4, .mptr 2 0 0)] (by show 5 ≤ 32; decide) rfl ?_
 obtain ⟨hp, nx, ck⟩ := H
 have hM : GM E m g hp nx := hM
 have hnx := hM.nx
 show Zm _ _ _ _ _ (st 32 _ hp nx ck) _ _
 unfold ic62
 repeat (first | refine za7 ?_ | refine za0 rfl ?_)
 refine zaj (id := 0) (sp := 0) (off := 0) rfl hM.h0 (by omega) rfl ?_
 repeat (first | refine za5 rfl ?_ | refine zb7 rfl rfl (by omega) (by omega) ?_)
 rw [ez]
 refine zaj (id := 1) (sp := 0) (off := v) rfl hM.h1 (by omega) (zoy (by omega)) ?_
 refine zax rfl rfl rfl (fun h3 => ?_) fun h3 => ?_
 ·have h3 : gI g v ≥ 0 := of_decide_eq_true h3
  repeat (first | refine za6 ?_ | refine za4 ?_ | refine zd2 rfl ?_ | refine zb2 ?_ | refine zan ?_)
  exact zau ⟨.inr rfl, _, rfl, [], .skip (l := []) (.nil _) (by show gB (bsG g) v = true; rw [zsy]; exact decide_eq_true h3), hM, Keep.refl _ _⟩
 ·have h3 : ¬ gI g v ≥ 0 := of_decide_eq_false h3
  have hg : gB (bsG g) v = false := by rw [zsy]; exact decide_eq_false h3
  have hun2 := zl2 (by rw [bs_len, hgl]; exact hv) hg
  have hgN := zoi (E := E) hv
  have hin : ∀ w ∈ nbr E m v, w < m := fun w hw => hb2 _ _ ((zc3 hb2).1 hw)
  have hnl := zih E m v
  repeat (first | refine za7 ?_ | refine za0 rfl ?_ | refine za6 ?_ | refine za4 ?_ | refine zal ?_ | refine zd5 rfl ?_)
  refine zaj (id := 0) (sp := 0) (off := 0) rfl hM.h0 (by omega) rfl ?_
  repeat (first | refine za5 rfl ?_ | refine zb7 rfl rfl (by omega) (by omega) ?_)
  rw [ez]
  refine zbs (id := 1) (sp := 0) (off := v) rfl rfl rfl hM.h1 (by simp; omega) rfl ?_
  repeat (first | refine za7 ?_ | refine za0 rfl ?_ | refine za6 ?_ | refine za4 ?_ | refine zac ?_ | refine za5 rfl ?_ | refine zad rfl rfl ?_ | refine zc4 rfl rfl ?_ | refine zay rfl rfl (by omega) (by assumption) rfl ?_)
  have hvis : ∀ D, Vis E m (bsG (g.set v (k : Int))) (nbr E m v) D → Vis E m (bsG g) [v] (D ++ [v]) := fun D h => .go (l := []) (D := []) (.nil _) hg (by rw [bs_set hk0] at h; exact h)
  rw [← bs_set hk0] at hun2
  generalize hl : nbr E m v = l at *
  refine zc1 (fun mm S => ∃ j D H2, mm = l.length - j ∧ j ≤ l.length ∧ Vis E m (bsG (g.set v (k : Int))) (l.take j) D ∧ GM E m (zit (k : Int) (g.set v (k : Int)) D) H2.heap H2.next ∧ Keep (fun j => j = 1) ⟨hp, nx, ck⟩ H2 ∧ S = st 32 [(0, .int .i64 (v : Nat)), (1, .int .i64 (k : Nat)), (4, .mptr 2 0 0), (21, vN l), (22, .int .i64 ((l.map fun w => ([.int .i64 (w : Nat)] : List AV)).length : Nat)), (23, .int .i64 (j : Nat))] H2.heap H2.next H2.clk) l.length
   (zaa (.cons rfl (.cons rfl (.cons rfl (.cons rfl (.cons rfl (.cons rfl .nil))))))) ⟨0, [], ⟨zbc 1 _ hp, nx, ck⟩, rfl, Nat.zero_le _, .nil _, ⟨by show Am.look 0 (zbc 1 _ hp) = _; rw [za2, if_neg (by decide)]; exact hM.h0, by show Am.look 1 (zbc 1 _ hp) = _; rw [za2, if_pos rfl, ← List.map_set]; rfl, by show Am.look 2 (zbc 1 _ hp) = _; rw [za2, if_neg (by decide)]; exact hM.h2, hnx⟩, ⟨Nat.le_refl _, Nat.le_refl _, fun i hi _ => by show Am.look i (zbc 1 _ hp) = _; rw [za2, if_neg (fun e => hi e.symm)]⟩, rfl⟩ ?_
  rintro mm S ⟨j, D, H2, rfl, hj, hV, hM, hK, rfl⟩
  have hnx := hM.nx
  have hgl2 : (g.set v (k : Int)).length = m := by rw [List.length_set, hgl]
  have hvu := zvj hb hV (by rw [bs_len, hgl2]) fun y hy => hin y (List.mem_of_mem_take hy)
  have hml : (zit (k : Int) (g.set v (k : Int)) D).length = m := by rw [zky, hgl2]
  unfold b62_0
  repeat (first | refine za7 ?_ | refine za0 rfl ?_)
  refine zax rfl rfl rfl (fun h4 => ?_) fun h4 => ?_
  ·have hlt2 : j < l.length := by
    have h5 : ((j : Nat) : Int) < (((l.map fun w => ([.int .i64 (w : Nat)] : List AV)).length : Nat) : Int) := of_decide_eq_true h4
    rw [List.length_map] at h5
    exact Int.ofNat_lt.1 h5
   have w2 : IntKind.wrap .i64 (((j : Nat) : Int) + 1) = ((j + 1 : Nat) : Int) := zap j (by omega)
   have hgv := zjs hlt2
   have hym := hin l[j] (List.getElem_mem hlt2)
   have hts : l.take (j + 1) = l.take j ++ [l[j]] := by rw [List.take_add_one, List.getElem?_eq_getElem hlt2]; rfl
   generalize l[j] = y at *
   have hft := ih (zit (k : Int) (g.set v (k : Int)) D) y H2 (by rw [zoh hk0]; omega) hml hym hM
   repeat (first | refine za7 ?_ | refine za0 rfl ?_ | refine za6 ?_ | refine za4 ?_ | refine zac ?_ | refine zal ?_ | refine zd2 rfl ?_ | refine za5 rfl ?_ | refine zad rfl rfl ?_ | refine zay rfl rfl (by omega) (by assumption) rfl ?_)
   refine zaj (id := 2) (sp := 0) (off := 0) rfl hM.h2 (by omega) rfl ?_
   repeat (first | refine za5 rfl ?_)
   refine o_ct _ rfl rfl (zsh hft) (fun v H _ m hm => absurd hm List.not_mem_nil) fun r H' hF => ?_
   obtain ⟨D2, hV2, hM2, hK2⟩ := hF
   have hV3 : Vis E m (bsG (g.set v (k : Int))) (l.take (j + 1)) (D ++ D2) := by
    rw [hts]
    rw [zoh hk0] at hV2
    exact hV.snoc hV2
   repeat (first | refine za0 rfl ?_ | refine za6 ?_ | refine za4 ?_ | refine zc5 ?_ | refine za5 rfl ?_ | refine zbp (op := .add) rfl rfl rfl ?_)
   rw [w2]
   refine zar (show l.length - (j + 1) < l.length - j by omega) (zaa (.cons rfl (.cons rfl (.cons rfl (.cons rfl (.cons rfl (.cons rfl .nil))))))) ⟨j + 1, D ++ D2, H', rfl, hlt2, hV3, ?_, hK.trans hK2, rfl⟩
   rw [zpu]
   exact hM2
  ·have hje : j = l.length := by
    have h5 : ¬ ((j : Nat) : Int) < (((l.map fun w => ([.int .i64 (w : Nat)] : List AV)).length : Nat) : Int) := of_decide_eq_false h4
    rw [List.length_map] at h5
    omega
   subst hje
   rw [List.take_length] at hV
   repeat (first | refine za7 ?_ | refine za6 ?_ | refine za4 ?_ | refine zd5 rfl ?_ | refine zc0 ?_ | refine zag ?_)
   refine zdj ?_
   repeat (first | refine zby ?_)
   refine zau ⟨.inl rfl, _, rfl, D ++ [v], hvis D hV, ?_, hK⟩
   rw [zv1]
   exact hM
end Go.Proofs.Ytoagikifehmlpaa
namespace Go.Proofs.Ytoagikifehmlpaa
open Go Go.Am
theorem ziv {i : Nat} {D : List Nat} (hi : i ∉ D) : ∀ l : List Nat, l.Nodup → i ∈ l → (l.filter fun j => !D.contains j).length = (l.filter fun j => !(i :: D).contains j).length + 1
 | [], _, h => by cases h
 | j :: l, hn, h => by
  obtain ⟨h1, h2⟩ := List.nodup_cons.1 hn
  rw [List.filter_cons, List.filter_cons]
  by_cases e : j = i
  ·subst e
   have e1 : (!D.contains j) = true := by simpa using hi
   have e2 : (!(j :: D).contains j) = false := by simp
   rw [if_pos e1, if_neg (by rw [e2]; exact Bool.false_ne_true), List.length_cons]
   congr 2
   refine List.filter_congr fun x hx => ?_
   have hx2 : x ≠ j := fun e => h1 (e ▸ hx)
   simp [hx2]
  ·have hm : i ∈ l := (List.mem_cons.1 h).resolve_left fun e2 => e e2.symm
   have ih := ziv hi l h2 hm
   have e3 : (!(i :: D).contains j) = (!D.contains j) := by simp [e]
   rw [e3]
   split
   ·rw [List.length_cons, List.length_cons, ih]
   ·exact ih
theorem zr8 {p : Nat → Prop} : ∀ {l : List Nat}, (∀ i ∈ l, p i) → AllL p l
 | [], _ => trivial
 | i :: _, h => ⟨h i (List.mem_cons_self ..), zr8 fun j hj => h j (List.mem_cons_of_mem _ hj)⟩
theorem zqw {pres : List (List Nat)} {N : Nat} {D : List Nat} (hp : ∀ i < N, ∀ p ∈ pres.getD i [], p < i) (h : zd7 pres N D = []) : ∀ i < N, i ∈ D := by
 intro i
 induction i using Nat.strongRecOn with
 | ind i ih =>
  intro hi
  refine Classical.byContradiction fun hni => ?_
  have : i ∈ zd7 pres N D := by
   unfold zd7
   rw [List.mem_filter]
   refine ⟨List.mem_range.2 hi, ?_⟩
   rw [Bool.and_eq_true, List.all_eq_true]
   refine ⟨by simpa using hni, fun p hpp => ?_⟩
   have := hp i hi p hpp
   exact List.contains_iff_mem.2 (ih p this (by omega))
  rw [h] at this
  cases this
theorem zrl {P : Program} {w0 : World} {N0 : Nat} {rd : Option (Nat × Nat)} {ios : List Opr} {pres : List (List Nat)} {K : AS → Prop} (hp : ∀ i < ios.length, ∀ p ∈ pres.getD i [], p < i) (I : List Nat → AS → Prop)
  (step : ∀ n D S i, I D S → i < ios.length → i ∉ D → (∀ p ∈ pres.getD i [], p ∈ D) → (∀ S', I (i :: D) S' → AnyF P w0 N0 rd ios pres n (i :: D) S' K) → StF P w0 N0 rd ios pres n D S K i)
  (fin : ∀ D S, I D S → (∀ i < ios.length, i ∈ D) → K S) : ∀ (n : Nat) (D : List Nat) (S : AS), I D S → ((List.range ios.length).filter fun i => !D.contains i).length = n → AnyF P w0 N0 rd ios pres n D S K
 | 0, D, S, hI, hn => by
  have h0 := List.length_eq_zero_iff.1 hn
  rw [List.filter_eq_nil_iff] at h0
  have hall : ∀ i < ios.length, i ∈ D := fun i hi => by
   have := h0 i (List.mem_range.2 hi)
   simpa using this
  refine ⟨?_, fin D S hI hall⟩
  unfold zd7
  rw [List.filter_eq_nil_iff]
  intro i hi
  have := List.contains_iff_mem.2 (hall i (List.mem_range.1 hi))
  rw [this]
  simp
 | n + 1, D, S, hI, hn => by
  refine AnyF.succ (fun h => ?_) (zr8 fun i hi => ?_)
  ·have hall := zqw hp h
   rw [List.filter_eq_nil_iff.2 fun i hi => by
    have := List.contains_iff_mem.2 (hall i (List.mem_range.1 hi))
    rw [this]
    simp] at hn
   cases hn
  ·unfold zd7 at hi
   rw [List.mem_filter, Bool.and_eq_true, List.all_eq_true] at hi
   obtain ⟨h1, h2, h3⟩ := hi
   have h2 : i ∉ D := by simpa using h2
   refine step n D S i hI (List.mem_range.1 h1) h2 (fun p hp => List.contains_iff_mem.1 (h3 p hp)) fun S' hI' => zrl hp I step fin n (i :: D) S' hI' ?_
   have := ziv h2 (List.range ios.length) List.nodup_range h1
   omega
theorem ztv (d : Nat) (v : AV) (l : List (Nat × AV)) : zbi d ((d, v) :: l) = some v := by
 rw [zbi, Nat.beq_refl]
theorem zj9 {d t : Nat} (h : d ≠ t) (v : AV) (l : List (Nat × AV)) : zbi t ((d, v) :: l) = zbi t l := by
 rw [zbi]
 cases hb : Nat.beq d t with
 | true => exact absurd (Nat.eq_of_beq_eq_true hb) h
 | false => rfl
def Lk (base : List (Nat × AV)) (dv : Nat → Option (Nat × AV)) (D : List Nat) (l : List (Nat × AV)) : Prop :=
 (∀ t v, (t, v) ∈ base → zbi t l = some v) ∧ ∀ j d v, dv j = some (d, v) → j ∈ D → zbi d l = some v
theorem Lk.add {base : List (Nat × AV)} {dv dv' : Nat → Option (Nat × AV)} {D : List Nat} {l : List (Nat × AV)} {i d : Nat} {v : AV} (h : Lk base dv D l) (hi : dv' i = some (d, v)) (hb : ∀ t v, (t, v) ∈ base → d ≠ t) (hs : ∀ j, j ∈ D → j ≠ i → dv' j = dv j) (hd : ∀ j e w, j ≠ i → dv' j = some (e, w) → d ≠ e) (hni : i ∉ D) :
  Lk base dv' (i :: D) ((d, v) :: l) := by
 refine ⟨fun t w ht => by rw [zj9 (hb t w ht)]; exact h.1 t w ht, fun j e w hj hm => ?_⟩
 by_cases hji : j = i
 ·subst hji
  rw [hi] at hj
  injection hj with hj
  injection hj with h1 h2
  subst h1 h2
  exact ztv ..
 ·rw [zj9 (hd j e w hji hj)]
  have hm2 : j ∈ D := (List.mem_cons.1 hm).resolve_left hji
  exact h.2 j e w (by rw [← hs j hm2 hji]; exact hj) hm2
end Go.Proofs.Ytoagikifehmlpaa
namespace Go.Proofs.Ytoagikifehmlpaa
open Go Go.Am
def zul : List Opr := [⟨(some 19), .load (some 2) (.t 1), none⟩, ⟨(some 20), .call (.c (.fn 45 [] [])) [(.t 19)], none⟩, ⟨(some 21), .load (some 2) (.t 1), none⟩, ⟨(some 22), .call (.c (.fn 47 [] [])) [(.t 21)], none⟩, ⟨(some 23), .call (.c (.fn 45 [] [])) [(.t 22)], none⟩, ⟨(some 4), .alloc [.nils], none⟩, ⟨(some 5), .alloc [.nils], none⟩, ⟨none, .store 1 (.t 4) (.t 20), none⟩, ⟨none, .store 1 (.t 5) (.t 23), none⟩]
def reg43p : List (List Nat) := [[], [0], [], [2, 1], [3, 3], [], [], [5, 1, 4, 0, 1, 5, 6], [6, 4, 7, 0, 1, 2, 3, 4, 5, 6, 7]]
structure N43 where
 i5 : Nat
 s5 : Nat
 i6 : Nat
 s6 : Nat
def dv43 (gc : List AV) (A R B : AV) (q : N43) : Nat → Option (Nat × AV)
 | 0 => some (19, .agg gc)
 | 1 => some (20, A)
 | 2 => some (21, .agg gc)
 | 3 => some (22, R)
 | 4 => some (23, B)
 | 5 => some (4, .mptr q.i5 q.s5 0)
 | 6 => some (5, .mptr q.i6 q.s6 0)
 | _ => none
def dd43 : Nat → Nat
 | 5 => 4
 | 6 => 5
 | j => 19 + j
theorem dv43_dst {gc : List AV} {A R B : AV} {q : N43} : ∀ {j e : Nat} {v : AV}, dv43 gc A R B q j = some (e, v) → e = dd43 j ∧ j < 7
 | 0, _, _, h | 1, _, _, h | 2, _, _, h | 3, _, _, h | 4, _, _, h | 5, _, _, h | 6, _, _, h => by
  injection h with h
  injection h with h1 h2
  exact ⟨h1.symm, by decide⟩
 | j + 7, _, _, h => by cases h
theorem dd43_ne {i j : Nat} (hi : i < 7) (hj : j < 7) (h : j ≠ i) : dd43 i ≠ dd43 j := by
 have : ∀ a < 7, ∀ b < 7, b ≠ a → dd43 a ≠ dd43 b := by decide
 exact this i hi j hj h
structure M43 (A B : AV) (D : List Nat) (hp : List (Nat × Nat × AObj)) (nx : Nat) (q : N43) : Prop where
 h5 : 5 ∈ D → Am.look q.i5 hp = some (q.s5, .cells [if D.contains 7 then A else .nils])
 l5 : 5 ∈ D → q.i5 < nx
 h6 : 6 ∈ D → Am.look q.i6 hp = some (q.s6, .cells [if D.contains 8 then B else .nils])
 l6 : 6 ∈ D → q.i6 < nx
 ne : 5 ∈ D → 6 ∈ D → q.i5 ≠ q.i6
 c7 : 7 ∈ D → 5 ∈ D
 c8 : 8 ∈ D → 6 ∈ D
def zf4 (gc : List AV) : List (Nat × AV) := [(1, .vptr gc)]
def Inv43 (gc : List AV) (A R B : AV) (D : List Nat) (S : AS) : Prop :=
 ∃ l hp nx ck q, S = st 80 l hp nx ck ∧ Lk (zf4 gc) (dv43 gc A R B q) D l ∧ M43 A B D hp nx q
theorem zrs {gc : List AV} {j : Nat} (hj : j < 7) : ∀ t v, (t, v) ∈ zf4 gc → dd43 j ≠ t := fun t v h => by
 unfold zf4 at h
 simp only [List.mem_cons, Prod.mk.injEq, List.not_mem_nil, or_false] at h
 have : ∀ k < 7, 4 ≤ dd43 k := by decide
 have := this j hj
 omega
theorem M43.keep {A B : AV} {D : List Nat} {hp : List (Nat × Nat × AObj)} {nx j : Nat} {q : N43} (h : M43 A B D hp nx q) (n5 : j ≠ 5) (n6 : j ≠ 6) (n7 : j ≠ 7) (n8 : j ≠ 8) : M43 A B (j :: D) hp nx q := by
 have e : ∀ k, j ≠ k → k ∈ j :: D → k ∈ D := fun k hk hm => (List.mem_cons.1 hm).resolve_left fun e => hk e.symm
 have c : ∀ k, j ≠ k → (j :: D).contains k = D.contains k := fun k hk => by rw [List.contains_cons, show (k == j) = false from beq_eq_false_iff_ne.2 fun e => hk e.symm, Bool.false_or]
 exact ⟨fun a => by rw [c 7 n7]; exact h.h5 (e 5 n5 a), fun a => h.l5 (e 5 n5 a), fun a => by rw [c 8 n8]; exact h.h6 (e 6 n6 a), fun a => h.l6 (e 6 n6 a), fun a b => h.ne (e 5 n5 a) (e 6 n6 b), fun a => List.mem_cons_of_mem _ (h.c7 (e 7 n7 a)), fun a => List.mem_cons_of_mem _ (h.c8 (e 8 n8 a))⟩
set_option maxHeartbeats 1000000 in
theorem step43 {w0 : World} {N0 : Nat} {rd : Option (Nat × Nat)} {K : AS → Prop} (gc : List AV) (A R B : AV) (hl2 : gc.length = 2) (hA : A.cells? = some [A]) (hB : B.cells? = some [B]) (cA : A.isCell = true) (cB : B.isCell = true) (mA : hasM (.agg gc) = false) (mR : hasM R = false)
  (hvA : ∀ S : AS, S.view VD (.agg gc) = .agg gc) (hvR : ∀ S : AS, S.view VD R = R) (p1 : PF Try.prog 45 [.agg gc] A) (p2 : PF Try.prog 47 [.agg gc] R) (p3 : PF Try.prog 45 [R] B)
  (r : Nat) (D : List Nat) (S : AS) (j : Nat) (hI : Inv43 gc A R B D S) (hj : j < 9) (hni : j ∉ D) (hpre : ∀ p ∈ reg43p.getD j [], p ∈ D)
  (go : ∀ S', Inv43 gc A R B (j :: D) S' → AnyF Try.prog w0 N0 rd zul reg43p r (j :: D) S' K) : StF Try.prog w0 N0 rd zul reg43p r D S K j := by
 obtain ⟨l, hp, nx, ck, q, rfl, hL, hP⟩ := hI
 have b1 : zbi 1 l = some (.vptr gc) := hL.1 _ _ (by unfold zf4; simp)
 have pr : ∀ k d v, dv43 gc A R B q k = some (d, v) → k ∈ D → zbi d l = some v := hL.2
 have ad : ∀ {i : Nat} {v : AV} {q' : N43}, i < 7 → i ∉ D → dv43 gc A R B q' i = some (dd43 i, v) → (∀ k, k ∈ D → k ≠ i → dv43 gc A R B q' k = dv43 gc A R B q k) → Lk (zf4 gc) (dv43 gc A R B q') (i :: D) ((dd43 i, v) :: l) := fun hi hn hv hs => hL.add hv (zrs hi) hs (fun k e v hk he => by
  obtain ⟨e1, e2⟩ := dv43_dst he
  rw [e1]
  exact dd43_ne hi e2 hk) hn
 have mk0 : zcc [] hp := fun _ h => absurd h List.not_mem_nil
 have gl : iop (st 80 l hp nx ck) (.load (some 2) (.t 1)) = some (.agg gc, st 80 l hp nx ck) := zn8 b1 rfl (by rw [hl2]; rfl) (by rw [← hl2, List.take_length])
 match j, hj, hni, hpre, go with
 | 0, _, hni, hpre, go => exact zq6 (i := 0) rfl rfl gl (go _ ⟨_, _, _, _, q, rfl, ad (i := 0) (by decide) hni rfl (fun _ _ _ => rfl), hP.keep (by decide) (by decide) (by decide) (by decide)⟩)
 | 2, _, hni, hpre, go => exact zq6 (i := 2) rfl rfl gl (go _ ⟨_, _, _, _, q, rfl, ad (i := 2) (by decide) hni rfl (fun _ _ _ => rfl), hP.keep (by decide) (by decide) (by decide) (by decide)⟩)
 | 1, _, hni, hpre, go =>
  have h0 := pr 0 19 _ rfl (hpre 0 (by decide))
  exact zmr (i := 1) (vs := [.agg gc]) rfl rfl (by simp only [zf7, zas, h0]) (by rw [List.map_cons, hvA]; rfl) p1 (fun h => absurd h (by show ¬ (hasM (.agg gc) || false) = true; rw [mA]; simp)) mk0 (go _ ⟨_, _, _, _, q, rfl, ad (i := 1) (by decide) hni rfl (fun _ _ _ => rfl), hP.keep (by decide) (by decide) (by decide) (by decide)⟩)
 | 3, _, hni, hpre, go =>
  have h0 := pr 2 21 _ rfl (hpre 2 (by decide))
  exact zmr (i := 3) (vs := [.agg gc]) rfl rfl (by simp only [zf7, zas, h0]) (by rw [List.map_cons, hvA]; rfl) p2 (fun h => absurd h (by show ¬ (hasM (.agg gc) || false) = true; rw [mA]; simp)) mk0 (go _ ⟨_, _, _, _, q, rfl, ad (i := 3) (by decide) hni rfl (fun _ _ _ => rfl), hP.keep (by decide) (by decide) (by decide) (by decide)⟩)
 | 4, _, hni, hpre, go =>
  have h0 := pr 3 22 _ rfl (hpre 3 (by decide))
  exact zmr (i := 4) (vs := [R]) rfl rfl (by simp only [zf7, zas, h0]) (by rw [List.map_cons, hvR]; rfl) p3 (fun h => absurd h (by show ¬ (hasM R || false) = true; rw [mR]; simp)) mk0 (go _ ⟨_, _, _, _, q, rfl, ad (i := 4) (by decide) hni rfl (fun _ _ _ => rfl), hP.keep (by decide) (by decide) (by decide) (by decide)⟩)
 | 5, _, hni, hpre, go =>
  have n7 : 7 ∉ D := fun h => hni (hP.c7 h)
  refine zq6 (i := 5) rfl rfl zn6 (go _ ⟨_, _, _, _, { q with i5 := nx, s5 := ck }, rfl, ad (i := 5) (by decide) hni rfl (fun k hk hkj => by
   match k, hkj with
   | 0, _ | 1, _ | 2, _ | 3, _ | 4, _ | 6, _ => rfl
   | 5, h => exact absurd rfl h
   | k + 7, _ => rfl), ?_⟩)
  have e : ∀ k, 5 ≠ k → k ∈ 5 :: D → k ∈ D := fun k hk hm => (List.mem_cons.1 hm).resolve_left fun e => hk e.symm
  have c : ∀ k, 5 ≠ k → (5 :: D).contains k = D.contains k := fun k hk => by rw [List.contains_cons, show (k == 5) = false from beq_eq_false_iff_ne.2 fun e => hk e.symm, Bool.false_or]
  have c7 : D.contains 7 = false := by simpa using n7
  refine ⟨fun _ => by rw [c 7 (by decide), c7]; exact zaz, fun _ => Nat.lt_succ_self _, fun a => ?_, fun a => ?_, fun _ b => ?_, fun a => absurd (e 7 (by decide) a) n7, fun a => List.mem_cons_of_mem _ (hP.c8 (e 8 (by decide) a))⟩
  ·rw [c 8 (by decide), za9, if_neg (by have := hP.l6 (e 6 (by decide) a); show ¬ nx = q.i6; omega)]
   exact hP.h6 (e 6 (by decide) a)
  ·have := hP.l6 (e 6 (by decide) a); show q.i6 < nx + 1; omega
  ·have := hP.l6 (e 6 (by decide) b); show nx ≠ q.i6; omega
 | 6, _, hni, hpre, go =>
  have n8 : 8 ∉ D := fun h => hni (hP.c8 h)
  refine zq6 (i := 6) rfl rfl zn6 (go _ ⟨_, _, _, _, { q with i6 := nx, s6 := ck }, rfl, ad (i := 6) (by decide) hni rfl (fun k hk hkj => by
   match k, hkj with
   | 0, _ | 1, _ | 2, _ | 3, _ | 4, _ | 5, _ => rfl
   | 6, h => exact absurd rfl h
   | k + 7, _ => rfl), ?_⟩)
  have e : ∀ k, 6 ≠ k → k ∈ 6 :: D → k ∈ D := fun k hk hm => (List.mem_cons.1 hm).resolve_left fun e => hk e.symm
  have c : ∀ k, 6 ≠ k → (6 :: D).contains k = D.contains k := fun k hk => by rw [List.contains_cons, show (k == 6) = false from beq_eq_false_iff_ne.2 fun e => hk e.symm, Bool.false_or]
  have c8 : D.contains 8 = false := by simpa using n8
  refine ⟨fun a => ?_, fun a => ?_, fun _ => by rw [c 8 (by decide), c8]; exact zaz, fun _ => Nat.lt_succ_self _, fun a _ => ?_, fun a => List.mem_cons_of_mem _ (hP.c7 (e 7 (by decide) a)), fun a => absurd (e 8 (by decide) a) n8⟩
  ·rw [c 7 (by decide), za9, if_neg (by have := hP.l5 (e 5 (by decide) a); show ¬ nx = q.i5; omega)]
   exact hP.h5 (e 5 (by decide) a)
  ·have := hP.l5 (e 5 (by decide) a); show q.i5 < nx + 1; omega
  ·have := hP.l5 (e 5 (by decide) a); show q.i5 ≠ nx; omega
 | 7, _, hni, hpre, go =>
  have h4 := pr 5 4 _ rfl (hpre 5 (by decide))
  have h20 := pr 1 20 _ rfl (hpre 1 (by decide))
  have m5 : 5 ∈ D := hpre 5 (by decide)
  have m6 : 6 ∈ D := hpre 6 (by decide)
  have hk := hP.h5 m5
  refine zlc (i := 7) rfl (zg8 (id := q.i5) (sp := q.s5) (off := 0) h4 h20 hA rfl hk rfl (by show (A.isCell && true) = true; rw [cA]; rfl)) (go _ ⟨_, _, _, _, q, rfl, ⟨hL.1, fun k d v hk hm => ?_⟩, ?_⟩)
  ·rcases List.mem_cons.1 hm with rfl | hm
   ·cases hk
   ·exact hL.2 k d v hk hm
  ·have c : (7 :: D).contains 8 = D.contains 8 := by rw [List.contains_cons, show ((8 : Nat) == 7) = false from rfl, Bool.false_or]
   refine ⟨fun _ => ?_, fun _ => hP.l5 m5, fun a => ?_, fun _ => hP.l6 m6, fun _ _ => hP.ne m5 m6, fun _ => List.mem_cons_of_mem _ m5, fun _ => List.mem_cons_of_mem _ m6⟩
   ·rw [za2, if_pos rfl, List.contains_cons, show ((7 : Nat) == 7) = true from rfl, Bool.true_or, if_pos rfl]
    rfl
   ·rw [c, za2, if_neg (hP.ne m5 m6)]
    exact hP.h6 m6
 | 8, _, hni, hpre, go =>
  have h5 := pr 6 5 _ rfl (hpre 6 (by decide))
  have h23 := pr 4 23 _ rfl (hpre 4 (by decide))
  have m5 : 5 ∈ D := hpre 5 (by decide)
  have m6 : 6 ∈ D := hpre 6 (by decide)
  have hk := hP.h6 m6
  refine zlc (i := 8) rfl (zg8 (id := q.i6) (sp := q.s6) (off := 0) h5 h23 hB rfl hk rfl (by show (B.isCell && true) = true; rw [cB]; rfl)) (go _ ⟨_, _, _, _, q, rfl, ⟨hL.1, fun k d v hk hm => ?_⟩, ?_⟩)
  ·rcases List.mem_cons.1 hm with rfl | hm
   ·cases hk
   ·exact hL.2 k d v hk hm
  ·have c : (8 :: D).contains 7 = D.contains 7 := by rw [List.contains_cons, show ((7 : Nat) == 8) = false from rfl, Bool.false_or]
   refine ⟨fun a => ?_, fun _ => hP.l5 m5, fun _ => ?_, fun _ => hP.l6 m6, fun _ _ => hP.ne m5 m6, fun _ => List.mem_cons_of_mem _ m5, fun _ => List.mem_cons_of_mem _ m6⟩
   ·rw [c, za2, if_neg fun e => hP.ne m5 m6 e.symm]
    exact hP.h5 m5
   ·rw [za2, if_pos rfl, List.contains_cons, show ((8 : Nat) == 8) = true from rfl, Bool.true_or, if_pos rfl]
    rfl
 | j + 9, hj, _, _, _ => exact absurd hj (by omega)
theorem nets43 {w0 : World} {N0 : Nat} {k : List Fr} {Q : Exit → AS → Prop} {y : IC} (gc : List AV) (A R B : AV) (hl2 : gc.length = 2) (hA : A.cells? = some [A]) (hB : B.cells? = some [B]) (cA : A.isCell = true) (cB : B.isCell = true) (mG : hasM (.agg gc) = false) (mR : hasM R = false) (mA : hasM A = false) (mB : hasM B = false)
  (hvA : ∀ S : AS, S.view VD (.agg gc) = .agg gc) (hvR : ∀ S : AS, S.view VD R = R) (p1 : PF Try.prog 45 [.agg gc] A) (p2 : PF Try.prog 47 [.agg gc] R) (p3 : PF Try.prog 45 [R] B)
  (fin : Zm Try.prog w0 N0 none y (st 80 [(4, .mptr 0 0 0), (5, .mptr 1 0 0), (1, .vptr gc)] [(0, 0, .cells [A]), (1, 0, .cells [B])] 2 1) k Q) :
  Zm Try.prog w0 N0 none (.region zul (some reg43p)) (st 80 (zf4 gc) [] 0 1) (.seq y :: k) Q := by
 refine z_any env0_ok.mix fun rd => zrl (by decide) (Inv43 gc A R B) (fun r D S j hI hj hni hpre go => step43 gc A R B hl2 hA hB cA cB mG mR hvA hvR p1 p2 p3 r D S j hI hj hni hpre go) (fun D S hI hall => Um.ok ?_) 9 [] _ ⟨_, _, _, _, ⟨0, 0, 0, 0⟩, rfl, ⟨fun t v h => ?_, fun _ _ _ _ h => (by cases h)⟩, ⟨fun h => (by cases h), fun h => (by cases h), fun h => (by cases h), fun h => (by cases h), fun h => (by cases h), fun h => (by cases h), fun h => (by cases h)⟩⟩ rfl
 ·obtain ⟨l, hp, nx, ck, q, rfl, hL, hP⟩ := hI
  have h4 := hL.2 5 4 _ rfl (hall 5 (by decide))
  have h5 := hL.2 6 5 _ rfl (hall 6 (by decide))
  have b1 : zbi 1 l = some (.vptr gc) := hL.1 _ _ (by unfold zf4; simp)
  have k5 := hP.h5 (hall 5 (by decide))
  have k6 := hP.h6 (hall 6 (by decide))
  rw [List.contains_iff_mem.2 (hall 7 (by decide)), if_pos rfl] at k5
  rw [List.contains_iff_mem.2 (hall 8 (by decide)), if_pos rfl] at k6
  have hne := hP.ne (hall 5 (by decide)) (hall 6 (by decide))
  refine za4 ?_
  refine zb6 [(some (q.i5, q.s5), [A]), (some (q.i6, q.s6), [B])] [] [(4, .mptr 0 0 0), (5, .mptr 1 0 0), (1, .vptr gc)] ?_ .nil (.cons k5 (.cons (.same mA) .nil) (.cons k6 (.cons (.same mB) .nil) .nil)) (.cons h4 (.mptr rfl) (.cons h5 (.mptr rfl) (.cons b1 (.same rfl) .nil))) fin
  show (!zko q.i5 [] && (!zko q.i6 [q.i5] && true)) = true
  have : zko q.i6 [q.i5] = false := by
   cases hb : zko q.i6 [q.i5] with
   | false => rfl
   | true => exact absurd (List.mem_singleton.1 (zey.1 hb)) fun e => hne e.symm
  rw [this]
  rfl
 ·unfold zf4 at *
  obtain ⟨rfl, rfl⟩ : t = 1 ∧ v = .vptr gc := by simpa using h
  rfl
end Go.Proofs.Ytoagikifehmlpaa
namespace Go.Proofs.Ytoagikifehmlpaa
open Go Go.Am
theorem isOut_or {e : Exit} (h : zqm e = true) : e = .normal ∨ e = .ret := by
 cases e <;> first
  | exact .inl rfl
  | exact .inr rfl
  | cases h
theorem z_endrun {P : Program} {E : Env} {w0 : World} {N0 : Nat} (hE : EnvOk P E) (n : Nat) {fi : FnI} {ic : IC} {S : AS} {v : AV} (h : seeK v (endK fi (zgt P E (lvlK P E n) none ic S)) = true) :
  Zm P w0 N0 none ic S [] fun e S' => (e = .normal ∨ e = .ret) ∧ ∃ v0, S'.leave.res fi.res = some v0 ∧ (⟨0, .nil, S'.leave.heap, S'.leave.next, S'.leave.clk, []⟩ : AS).view VD v0 = v := by
 cases hr : zgt P E (lvlK P E n) none ic S with
 | none => rw [hr] at h; cases h
 | some r =>
  obtain ⟨e, S'⟩ := r
  rw [hr] at h
  unfold endK at h
  cases ho : zqm e with
  | false => simp only [ho, cond_false] at h; cases h
  | true =>
   simp only [ho, cond_true] at h
   rw [zkw, zno] at hr
   refine ⟨zmo (zmp (zny hE (ztw hE n) hr)) ?_⟩
   rintro e1 S1 ⟨rfl, rfl⟩
   refine ⟨isOut_or ho, ?_⟩
   cases hv : S1.leave.res fi.res with
   | none => rw [hv] at h; cases h
   | some v0 =>
    rw [hv] at h
    exact ⟨v0, rfl, AV.eq_of_beq _ _ h⟩
end Go.Proofs.Ytoagikifehmlpaa
namespace Go.Proofs.Ytoagikifehmlpaa
open Go Go.Am
def smp : List (Nat × Nat) := [(0, 2), (2, 1), (1, 0), (2, 3), (0, 3)]
def smr : List (Nat × Nat) := [(2, 0), (1, 2), (0, 1), (3, 2), (3, 0)]
def smb : List (Nat × Nat) := [(0, 1), (0, 1)]
def smo : List (Nat × Nat) := [(3, 1), (1, 0), (3, 0), (2, 0)]
def tab1 : Tab := [(45, [
 ([.agg [.int .i64 5, .vs [[.int .i64 0, .int .i64 2], [.int .i64 2, .int .i64 1], [.int .i64 1, .int .i64 0], [.int .i64 2, .int .i64 3], [.int .i64 0, .int .i64 3]]]], .vs [[.vs [[.int .i64 2], [.int .i64 3]]], [.vs [[.int .i64 0]]], [.vs [[.int .i64 1], [.int .i64 3]]], [.vs []], [.vs []]]),
 ([.agg [.int .i64 5, .vs [[.int .i64 2, .int .i64 0], [.int .i64 1, .int .i64 2], [.int .i64 0, .int .i64 1], [.int .i64 3, .int .i64 2], [.int .i64 3, .int .i64 0]]]], .vs [[.vs [[.int .i64 1]]], [.vs [[.int .i64 2]]], [.vs [[.int .i64 0]]], [.vs [[.int .i64 0], [.int .i64 2]]], [.vs []]]),
 ([.agg [.int .i64 3, .vs [[.int .i64 0, .int .i64 1], [.int .i64 0, .int .i64 1]]]], .vs [[.vs [[.int .i64 1]]], [.vs []], [.vs []]]),
 ([.agg [.int .i64 4, .vs [[.int .i64 3, .int .i64 1], [.int .i64 1, .int .i64 0], [.int .i64 3, .int .i64 0], [.int .i64 2, .int .i64 0]]]], .vs [[.vs []], [.vs [[.int .i64 0]]], [.vs [[.int .i64 0]]], [.vs [[.int .i64 0], [.int .i64 1]]]])])]
theorem inR (m : Nat) (E : List (Nat × Nat)) (h : (E.all fun e => Nat.blt e.1 m && Nat.blt e.2 m) = true) : ∀ u v, (u, v) ∈ E → u < m ∧ v < m := fun u v hm => by
 have := List.all_eq_true.1 h _ hm
 rw [Bool.and_eq_true] at this
 exact ⟨Nat.le_of_ble_eq_true this.1, Nat.le_of_ble_eq_true this.2⟩
theorem zet : TabOk Try.prog tab1 := by
 intro x hx y hy
 unfold tab1 at hx
 obtain rfl := List.mem_singleton.1 hx
 simp only [List.mem_cons, List.not_mem_nil, or_false] at hy
 rcases hy with rfl | rfl | rfl | rfl
 ·have := zdb 5 (by decide) smp (by decide) (inR 5 smp (by decide))
  rw [show cN smp 5 = _ from (by kernel_rfl : cN smp 5 = .vs [[.vs [[.int .i64 2], [.int .i64 3]]], [.vs [[.int .i64 0]]], [.vs [[.int .i64 1], [.int .i64 3]]], [.vs []], [.vs []]])] at this
  exact this
 ·have := zdb 5 (by decide) smr (by decide) (inR 5 smr (by decide))
  rw [show cN smr 5 = _ from (by kernel_rfl : cN smr 5 = .vs [[.vs [[.int .i64 1]]], [.vs [[.int .i64 2]]], [.vs [[.int .i64 0]]], [.vs [[.int .i64 0], [.int .i64 2]]], [.vs []]])] at this
  exact this
 ·have := zdb 3 (by decide) smb (by decide) (inR 3 smb (by decide))
  rw [show cN smb 3 = _ from (by kernel_rfl : cN smb 3 = .vs [[.vs [[.int .i64 1]]], [.vs []], [.vs []]])] at this
  exact this
 ·have := zdb 4 (by decide) smo (by decide) (inR 4 smo (by decide))
  rw [show cN smo 4 = _ from (by kernel_rfl : cN smo 4 = .vs [[.vs []], [.vs [[.int .i64 0]]], [.vs [[.int .i64 0]]], [.vs [[.int .i64 0], [.int .i64 1]]]])] at this
  exact this
def gcA : List AV := [.int .i64 5, .vs [[.int .i64 0, .int .i64 2], [.int .i64 2, .int .i64 1], [.int .i64 1, .int .i64 0], [.int .i64 2, .int .i64 3], [.int .i64 0, .int .i64 3]]]
def tab47 : Tab := [(47, [([.agg gcA], .agg [.int .i64 5, .vs [[.int .i64 2, .int .i64 0], [.int .i64 1, .int .i64 2], [.int .i64 0, .int .i64 1], [.int .i64 3, .int .i64 2], [.int .i64 3, .int .i64 0]]])])]
theorem tab47_ok : TabOk Try.prog tab47 := TabOk.of_run (env0_ok.tab TabOk.nil (pure := [])) (n := 80) (by kernel_rfl)
noncomputable def zhi : Code := match env0.fn 43 with
 | some i => ((zdq i.ic)[0]?.getD (.skip, .skip)).1
 | none => .skip
noncomputable def zhl : Code := match env0.fn 43 with
 | some i => ((zdq i.ic)[0]?.getD (.skip, .skip)).2
 | none => .skip
def b43_0 : IC := .seq (.region [⟨(some 31), .bin .lss (.t 30) (.t 29), none⟩] none)
 (.seq (.cond (.t 31) (.skip)
 (.exit 0))
 (.seq (.block 1 (.seq (.region [⟨(some 32), .mov (.t 30), none⟩,
  ⟨(some 9), .mov (.t 32), none⟩] none)
 (.region [⟨(some 33), .load none (.t 8), none⟩,
  ⟨(some 34), .mov (.t 9), none⟩,
  ⟨(some 35), .call (.t 33) [(.t 34)], none⟩] none)))
 (.region [⟨(some 36), .bin .add (.t 30) (.c (.int .i64 1)), none⟩,
  ⟨(some 30), .mov (.t 36), none⟩] none)))
def b43_4 : IC := .seq (.region [⟨(some 54), .bin .lss (.t 53) (.t 52), none⟩] none)
 (.seq (.cond (.t 54) (.skip)
 (.exit 4))
 (.seq (.block 5 (.seq (.region [⟨(some 55), .mov (.t 53), none⟩,
  ⟨(some 56), .idxs 1 (.t 51) (.t 53), none⟩,
  ⟨(some 57), .load none (.t 56), none⟩,
  ⟨(some 15), .mov (.t 55), none⟩,
  ⟨(some 16), .mov (.t 57), none⟩] none)
 (.seq (.seq (.region [⟨(some 59), .mov (.t 14), none⟩,
  ⟨(some 60), .mov (.t 16), none⟩,
  ⟨(some 61), .mapget .int (.int .i64 0) true (.t 59) (.t 60), none⟩,
  ⟨(some 58), .mov (.t 61), none⟩,
  ⟨(some 62), .extract (.t 58) 0, none⟩,
  ⟨(some 63), .extract (.t 58) 1, none⟩,
  ⟨(some 17), .mov (.t 62), none⟩,
  ⟨(some 18), .mov (.t 63), none⟩] none)
 (.seq (.region [⟨(some 64), .mov (.t 18), none⟩,
  ⟨(some 65), .un .not (.t 64), none⟩] none)
 (.cond (.t 65) (.region [⟨(some 66), .mov (.t 14), none⟩,
  ⟨(some 67), .mov (.t 16), none⟩,
  ⟨(some 68), .mov (.t 14), none⟩,
  ⟨(some 69), .mapget .int (.top) false (.t 68) (.c (.int .i64 0)), none⟩,
  ⟨none, .mapset .int (.t 66) (.t 67) (.t 69), none⟩] none)
 (.skip))))
 (.region [⟨(some 70), .load none (.t 10), none⟩,
  ⟨(some 71), .mov (.t 15), none⟩,
  ⟨(some 72), .mov (.t 14), none⟩,
  ⟨(some 73), .mov (.t 16), none⟩,
  ⟨(some 74), .mapget .int (.int .i64 0) false (.t 72) (.t 73), none⟩,
  ⟨(some 75), .idxs 1 (.t 70) (.t 71), none⟩,
  ⟨none, .store 1 (.t 75) (.t 74), none⟩] none))))
 (.region [⟨(some 76), .bin .add (.t 53) (.c (.int .i64 1)), none⟩,
  ⟨(some 53), .mov (.t 76), none⟩] none)))
def zmt : IC := .seq (.region [⟨(some 12), .mov (.t 44), none⟩] none)
 (.region [⟨(some 13), .mov (.t 45), none⟩] none)
def zui : IC := .block 3 (.region [⟨(some 46), .load none (.t 11), none⟩,
  ⟨(some 47), .mov (.t 13), none⟩,
  ⟨(some 48), .mov (.t 12), none⟩,
  ⟨(some 49), .call (.t 46) [(.t 47), (.t 48)], none⟩] none)
-- pneumatic/digraph.components
noncomputable def ic43 : IC := .seq (.region [⟨(some 1), .box (.t 0), none⟩,
  ⟨(some 2), .mov (.c (.nils)), none⟩,
  ⟨(some 3), .mov (.c (.int .i64 0)), none⟩] none)
 (.seq (.region [⟨(some 19), .load (some 2) (.t 1), none⟩,
  ⟨(some 20), .call (.c (.fn 45 [] [])) [(.t 19)], none⟩,
  ⟨(some 21), .load (some 2) (.t 1), none⟩,
  ⟨(some 22), .call (.c (.fn 47 [] [])) [(.t 21)], none⟩,
  ⟨(some 23), .call (.c (.fn 45 [] [])) [(.t 22)], none⟩,
  ⟨(some 4), .alloc [.nils], none⟩,
  ⟨(some 5), .alloc [.nils], none⟩,
  ⟨none, .store 1 (.t 4) (.t 20), none⟩,
  ⟨none, .store 1 (.t 5) (.t 23), none⟩] (some [[], [0], [], [2, 1], [3, 3], [], [], [5, 1, 4, 0, 1, 5, 6], [6, 4, 7, 0, 1, 2, 3, 4, 5, 6, 7]]))
 (.seq (.region [⟨(some 24), .faddr 0 (.t 1), none⟩,
  ⟨(some 25), .load none (.t 24), none⟩,
  ⟨(some 26), .mkslice 1 1 [.bool false] (.t 25) (.t 25), none⟩,
  ⟨(some 6), .alloc [.nils], none⟩,
  ⟨none, .store 1 (.t 6) (.t 26), none⟩] none)
 (.seq (.region [⟨(some 7), .alloc [.nils], none⟩] none)
 (.seq (.region [⟨(some 8), .alloc [.nilf], none⟩] none)
 (.seq (.region [⟨(some 27), .mkfn 60 [] [(.t 6), (.t 4), (.t 8), (.t 7)], none⟩,
  ⟨none, .store 1 (.t 8) (.t 27), none⟩] none)
 (.seq (.seq (.region [⟨(some 28), .load none (.t 4), none⟩,
  ⟨(some 29), .len false (.t 28), none⟩,
  ⟨(some 30), .mov (.c (.int .i64 0)), none⟩] none)
 (.block 0 (.loop b43_0)))
 (.seq (.region [⟨(some 37), .bslice 1 1 [.int .i64 0] [(0, 1, (.c (.int .i64 (-1))))], none⟩,
  ⟨(some 38), .faddr 0 (.t 1), none⟩,
  ⟨(some 39), .load none (.t 38), none⟩,
  ⟨(some 40), .call (.c (.fn 61 [] [])) [(.t 37), (.t 39)], none⟩,
  ⟨(some 10), .alloc [.nils], none⟩,
  ⟨none, .store 1 (.t 10) (.t 40), none⟩] none)
 (.seq (.region [⟨(some 11), .alloc [.nilf], none⟩] none)
 (.seq (.region [⟨(some 41), .mkfn 62 [] [(.t 10), (.t 5), (.t 11)], none⟩,
  ⟨none, .store 1 (.t 11) (.t 41), none⟩] none)
 (.seq (.seq (.region [⟨(some 42), .load none (.t 7), none⟩,
  ⟨(some 43), .call (.c (.fn 63 [] [])) [(.t 42)], none⟩] none)
 (.block 2 (.rangeFunc (.t 43) [44, 45] zhi zhl zmt zui)))
 (.seq (.region [⟨(some 50), .mkmap, none⟩,
  ⟨(some 14), .mov (.t 50), none⟩] none)
 (.seq (.seq (.region [⟨(some 51), .load none (.t 10), none⟩,
  ⟨(some 52), .len false (.t 51), none⟩,
  ⟨(some 53), .mov (.c (.int .i64 0)), none⟩] none)
 (.block 4 (.loop b43_4)))
 (.seq (.region [⟨(some 77), .load none (.t 10), none⟩,
  ⟨(some 78), .mov (.t 14), none⟩,
  ⟨(some 79), .mapget .int (.top) false (.t 78) (.c (.int .i64 0)), none⟩,
  ⟨(some 2), .mov (.t 77), none⟩,
  ⟨(some 3), .mov (.t 79), none⟩] none)
 (.ret))))))))))))))
theorem fn43 : env0.fn 43 = some ⟨80, ic43, [.t 2, .t 3]⟩ := by kernel_rfl
def netA : AV := .vs [[.vs [[.int .i64 2], [.int .i64 3]]], [.vs [[.int .i64 0]]], [.vs [[.int .i64 1], [.int .i64 3]]], [.vs []], [.vs []]]
def netB : AV := .vs [[.vs [[.int .i64 1]]], [.vs [[.int .i64 2]]], [.vs [[.int .i64 0]]], [.vs [[.int .i64 0], [.int .i64 2]]], [.vs []]]
def revA : AV := .agg [.int .i64 5, .vs [[.int .i64 2, .int .i64 0], [.int .i64 1, .int .i64 2], [.int .i64 0, .int .i64 1], [.int .i64 3, .int .i64 2], [.int .i64 3, .int .i64 0]]]
theorem p1A : PF Try.prog 45 [.agg gcA] netA := zet _ (List.mem_cons_self ..) _ (List.mem_cons_self ..)
theorem p2A : PF Try.prog 47 [.agg gcA] revA := tab47_ok _ (List.mem_cons_self ..) _ (List.mem_cons_self ..)
theorem p3A : PF Try.prog 45 [revA] netB := zet _ (List.mem_cons_self ..) _ (List.mem_cons_of_mem _ (List.mem_cons_self ..))
theorem comps43 : PF Try.prog 43 [.agg gcA] (.tup [.vs [[.int .i64 0], [.int .i64 0], [.int .i64 0], [.int .i64 1], [.int .i64 2]], .int .i64 3]) := by
 refine zbg env0_ok fn43 [(0, .agg gcA)] (by show 1 ≤ 80; decide) rfl fun w0 N0 => ?_
 unfold ic43
 refine za7 (za0 rfl (zel (cs := gcA) rfl rfl (za5 rfl (za5 rfl (za6 (za4 ?_))))))
 refine zb6 [] [(0, 0, gcA)] (zf4 gcA) rfl (.cons rfl rfl .nil) .nil (.cons rfl (.fptr rfl rfl) .nil) ?_
 refine za7 (nets43 gcA netA revA netB rfl rfl rfl rfl rfl rfl rfl rfl rfl (fun S => rfl) (fun S => rfl) p1A p2A p3A ?_)
 exact z_endrun (env0_ok.tab TabOk.nil (pure := [])) 80 (fi := ⟨80, ic43, [.t 2, .t 3]⟩) (by kernel_rfl)
def tab43 : Tab := [(43, [([.agg gcA], .tup [.vs [[.int .i64 0], [.int .i64 0], [.int .i64 0], [.int .i64 1], [.int .i64 2]], .int .i64 3])])]
theorem tab43_ok : TabOk Try.prog tab43 := by
 intro x hx y hy
 unfold tab43 at hx
 obtain rfl := List.mem_singleton.1 hx
 obtain rfl := List.mem_singleton.1 hy
 exact comps43
def tab22 : Tab := [(22, [([.agg [.int .i64 5, .vs [[.int .i64 0, .int .i64 2], [.int .i64 2, .int .i64 1], [.int .i64 1, .int .i64 0], [.int .i64 2, .int .i64 3], [.int .i64 0, .int .i64 3]]], .int .i64 1], .tup [.vs [[.int .i64 (1)], [.int .i64 (0)], [.int .i64 (2)], [.int .i64 (2)], [.int .i64 (-1)]], .int .i64 0])])]
theorem tab22_ok : TabOk Try.prog tab22 := TabOk.of_run (env0_ok.tab (tab43_ok.append zet) (pure := [])) (n := 80) (by kernel_rfl)
def tab27 : Tab := [(27, [([.agg [.int .i64 5, .vs [[.int .i64 0, .int .i64 2], [.int .i64 2, .int .i64 1], [.int .i64 1, .int .i64 0], [.int .i64 2, .int .i64 3], [.int .i64 0, .int .i64 3]]], .int .i64 2, .int .i64 0], .tup [.vs [[.int .i64 (2)], [.int .i64 (1)], [.int .i64 (0)]], .int .i64 0])])]
theorem tab27_ok : TabOk Try.prog tab27 := TabOk.of_run (env0_ok.tab (tab43_ok.append zet) (pure := [])) (n := 80) (by kernel_rfl)
def tab21 : Tab := [(21, [([.agg [.int .i64 5, .vs [[.int .i64 0, .int .i64 2], [.int .i64 2, .int .i64 1], [.int .i64 1, .int .i64 0], [.int .i64 2, .int .i64 3], [.int .i64 0, .int .i64 3]]]], .tup [.vs [[.int .i64 (0)], [.int .i64 (2)], [.int .i64 (1)]], .int .i64 0])])]
theorem tab21_ok : TabOk Try.prog tab21 := TabOk.of_run (env0_ok.tab (tab43_ok.append zet) (pure := [])) (n := 80) (by kernel_rfl)
def tab13 : Tab := [(13, [([.agg [.int .i64 5, .vs [[.int .i64 0, .int .i64 2], [.int .i64 2, .int .i64 1], [.int .i64 1, .int .i64 0], [.int .i64 2, .int .i64 3], [.int .i64 0, .int .i64 3]]]], .tup [.vs [[.vs [[.int .i64 (0)], [.int .i64 (1)], [.int .i64 (2)]]], [.vs [[.int .i64 (3)]]], [.vs [[.int .i64 (4)]]]], .int .i64 0])])]
theorem tab13_ok : TabOk Try.prog tab13 := TabOk.of_run (env0_ok.tab (tab43_ok.append zet) (pure := [])) (n := 80) (by kernel_rfl)
def tab15 : Tab := [(15, [([.agg [.int .i64 5, .vs [[.int .i64 0, .int .i64 2], [.int .i64 2, .int .i64 1], [.int .i64 1, .int .i64 0], [.int .i64 2, .int .i64 3], [.int .i64 0, .int .i64 3]]]], .tup [.agg [.int .i64 3, .vs [[.int .i64 0, .int .i64 1]]], .vs [[.int .i64 (0)], [.int .i64 (0)], [.int .i64 (0)], [.int .i64 (1)], [.int .i64 (2)]], .int .i64 0])])]
theorem tab15_ok : TabOk Try.prog tab15 := TabOk.of_run (env0_ok.tab tab43_ok (pure := [])) (n := 80) (by kernel_rfl)
def tab23 : Tab := [(23, [([.agg [.int .i64 4, .vs [[.int .i64 3, .int .i64 1], [.int .i64 1, .int .i64 0], [.int .i64 3, .int .i64 0], [.int .i64 2, .int .i64 0]]]], .tup [.vs [[.int .i64 (2)], [.int .i64 (3)], [.int .i64 (1)], [.int .i64 (0)]], .int .i64 0])])]
theorem tab23_ok : TabOk Try.prog tab23 := TabOk.of_run (env0_ok.tab (tab43_ok.append zet) (pure := [])) (n := 80) (by kernel_rfl)
def tab41 : Tab := [(41, [([], .agg [.int .i64 5, .vs [[.int .i64 0, .int .i64 2], [.int .i64 2, .int .i64 1], [.int .i64 1, .int .i64 0], [.int .i64 2, .int .i64 3], [.int .i64 0, .int .i64 3]]])])]
theorem tab41_ok : TabOk Try.prog tab41 := TabOk.of_run (env0_ok.tab (tab43_ok.append zet) (pure := [])) (n := 80) (by kernel_rfl)
def tabB : Tab := tab41 ++ (tab23 ++ (tab15 ++ (tab13 ++ (tab21 ++ (tab27 ++ tab22)))))
theorem tabB_ok : TabOk Try.prog tabB := tab41_ok.append (tab23_ok.append (tab15_ok.append (tab13_ok.append (tab21_ok.append (tab27_ok.append tab22_ok)))))
def tabA : Tab := [
 (12, [
  ([], .bool true)])]
theorem tabA_ok : TabOk Try.prog tabA := TabOk.of_run (env0_ok.tab tabB_ok (pure := [])) (n := 80) (by kernel_rfl)
theorem zmu : PF Try.prog 12 [] (.bool true) := tabA_ok _ (List.mem_cons_self ..) _ (List.mem_cons_self ..)
end Go.Proofs.Ytoagikifehmlpaa
namespace Go.Proofs.Ytoagikifehmlpaa
open Go Go.Am
-- slices.Contains[[]int,int]
-- slices.Index[[]pneumatic/api.Edge,pneumatic/api.Edge]
-- slices.Contains[[]pneumatic/api.Edge,pneumatic/api.Edge]
-- pneumatic/pneumaticlaw10.right
def ic20 : IC := .seq (.region [⟨(some 1), .box (.t 0), none⟩,
  ⟨(some 2), .mov (.c (.bool false)), none⟩] none)
 (.seq (.region [⟨(some 3), .faddr 0 (.t 1), none⟩,
  ⟨(some 4), .load none (.t 3), none⟩,
  ⟨(some 5), .bin .leq (.t 4) (.c (.int .i64 12)), none⟩,
  ⟨(some 6), .mov (.t 5), none⟩,
  ⟨(some 7), .faddr 1 (.t 1), some (6, true)⟩,
  ⟨(some 8), .load none (.t 7), some (6, true)⟩,
  ⟨(some 9), .len false (.t 8), some (6, true)⟩,
  ⟨(some 10), .bin .leq (.t 9) (.c (.int .i64 30)), some (6, true)⟩,
  ⟨(some 11), .pick (.t 6) (.t 10) (.c (.bool false)), none⟩,
  ⟨(some 12), .mov (.t 11), none⟩,
  ⟨(some 13), .load (some 2) (.t 1), some (12, true)⟩,
  ⟨(some 14), .call (.c (.fn 35 [] [])) [(.t 13)], some (12, true)⟩,
  ⟨(some 15), .bin .eql (.t 14) (.c (.int .i64 0)), some (12, true)⟩,
  ⟨(some 16), .pick (.t 12) (.t 15) (.c (.bool false)), none⟩,
  ⟨(some 2), .mov (.t 16), none⟩] none)
 (.ret))
theorem fn20 : env0.fn 20 = some ⟨17, ic20, [.t 2]⟩ := by kernel_rfl
def rgtB (n : Int) (es : List (Int × Int)) : Bool := decide (n ≤ 12) && decide (es.length ≤ 30) && (zd6 n es == 0)
set_option maxHeartbeats 1000000 in
theorem right20 (n : Int) (es : List (Int × Int)) : PF Try.prog 20 [cG n es] (.bool (rgtB n es)) := by
 have p35 := check35 n es
 have hcl := zcg es
 refine zbg env0_ok fn20 [(0, .agg [.int .i64 n, .vs (cE es)])] (by show 1 ≤ 17; decide) rfl fun w0 N0 => ?_
 unfold ic20 rgtB
 refine za7 (za0 rfl (zel rfl rfl (za5 rfl (za6 (za4 ?_)))))
 refine zb6 [] [(0, 0, [.int .i64 n, .vs (cE es)])] [(1, .vptr [.int .i64 n, .vs (cE es)])] rfl (.cons rfl rfl .nil) .nil (.cons rfl (.fptr rfl rfl) .nil) ?_
 repeat (first | refine za7 ?_ | refine za0 rfl ?_ | refine zad rfl rfl ?_ | refine zam rfl rfl rfl ?_)
 refine zax rfl rfl rfl (fun h => ?_) fun h => ?_
 ·rw [show decide (n ≤ 12) = true from h, Bool.true_and]
  repeat (first | refine zg4 rfl ?_ | refine za5 rfl ?_ | refine zad rfl rfl ?_ | refine zam rfl rfl rfl ?_ | refine zc4 rfl rfl ?_)
  refine zax rfl rfl rfl (fun h => ?_) fun h => ?_
  ·rw [show decide (es.length ≤ 30) = true from decide_eq_true (by have h : (((cE es).length : Nat) : Int) ≤ 30 := of_decide_eq_true h; omega), Bool.true_and]
   repeat (first | refine zg4 rfl ?_ | refine za5 rfl ?_ | refine zb1 rfl rfl rfl rfl ?_ | refine zbb rfl rfl ?_)
   refine zb3 rfl rfl p35 (fun h => Bool.noConfusion (show false = true from h)) ?_
   repeat (first | refine zg4 rfl ?_)
   refine zax rfl rfl rfl (fun h => ?_) fun h => ?_
   ·rw [show (zd6 n es == 0) = true from h]
    repeat (first | refine za6 ?_ | refine za4 ?_ | refine zb2 ?_ | refine za5 rfl ?_ | refine zbb rfl rfl ?_)
    exact zau ⟨.inr rfl, _, rfl, rfl⟩
   ·rw [show (zd6 n es == 0) = false from h]
    repeat (first | refine za6 ?_ | refine za4 ?_ | refine zb2 ?_ | refine za5 rfl ?_ | refine zbb rfl rfl ?_)
    exact zau ⟨.inr rfl, _, rfl, rfl⟩
  ·rw [show decide (es.length ≤ 30) = false from decide_eq_false (by have h : ¬ (((cE es).length : Nat) : Int) ≤ 30 := of_decide_eq_false h; omega), Bool.false_and]
   repeat (first | refine za6 ?_ | refine za4 ?_ | refine zb2 ?_ | refine o_gn rfl rfl ?_ | refine za5 rfl ?_ | refine zbb rfl rfl ?_ | refine zba rfl rfl ?_)
   exact zau ⟨.inr rfl, _, rfl, rfl⟩
 ·rw [show decide (n ≤ 12) = false from h, Bool.false_and, Bool.false_and]
  repeat (first | refine za6 ?_ | refine za4 ?_ | refine zb2 ?_ | refine o_gn rfl rfl ?_ | refine za5 rfl ?_ | refine zba rfl rfl ?_)
  exact zau ⟨.inr rfl, _, rfl, rfl⟩
theorem rgt_ok {n : Int} {es : List (Int × Int)} (h : rgtB n es = true) : ∃ (m : Nat) (E : List (Nat × Nat)), n = (m : Int) ∧ es = zaf E ∧ m ≤ 12 ∧ E.length ≤ 30 ∧ zd6 (m : Nat) (zaf E) = 0 ∧ ∀ u v, (u, v) ∈ E → u < m ∧ v < m := by
 unfold rgtB at h
 rw [Bool.and_eq_true, Bool.and_eq_true, decide_eq_true_eq, decide_eq_true_eq, beq_iff_eq] at h
 obtain ⟨⟨h1, h2⟩, h3⟩ := h
 obtain ⟨m, E, rfl, rfl, hm, hl, hE, hb⟩ := zj4 h3
 exact ⟨m, E, rfl, rfl, by omega, by omega, h3, hb⟩
end Go.Proofs.Ytoagikifehmlpaa
namespace Go.Proofs.Ytoagikifehmlpaa
open Go Go.Am
theorem zt1 {o : List Int} {i : Nat} (h : i < o.length) : o[i] = gI o i := by
 unfold gI
 rw [List.getD_eq_getElem?_getD, List.getElem?_eq_getElem h]
 rfl
end Go.Proofs.Ytoagikifehmlpaa
namespace Go.Proofs.Ytoagikifehmlpaa
open Go Go.Am
def swE (es : List (Int × Int)) : List (Int × Int) := es.map fun e => (e.2, e.1)
theorem swE_succ {es : List (Int × Int)} {i : Nat} (h : i < es.length) : swE (es.take (i + 1)) = swE (es.take i) ++ [(es[i].2, es[i].1)] := by
 unfold swE
 rw [List.take_add_one, List.getElem?_eq_getElem h, List.map_append]
 rfl
theorem swE_len (es : List (Int × Int)) (i : Nat) : (swE (es.take i)).length ≤ i := by
 unfold swE
 rw [List.length_map, List.length_take]
 omega
def Rv (q : List (Int × Int)) (w : AV) (hp : List (Nat × Nat × AObj)) (nx : Nat) : Prop :=
 (q = [] ∧ w = .nils) ∨ ∃ id sp, w = .ms id sp 2 0 q.length none ∧ Am.look id hp = some (sp, .cells (cE q).flatten) ∧ 1 < id ∧ id < nx
structure Rq (n : Int) (q : List (Int × Int)) (v w : AV) (hp : List (Nat × Nat × AObj)) (nx : Nat) : Prop where
 res : Am.look 0 hp = some (0, .cells [.int .i64 0, .nils])
 out : Am.look 1 hp = some (1, .cells [.int .i64 n, v])
 lst : Rv q w hp nx
 nx1 : 1 < nx
section
variable {n : Int} {q : List (Int × Int)} {v w : AV} {hp : List (Nat × Nat × AObj)} {nx : Nat}
theorem Rq.fresh (h : Rq n q v w hp nx) (ck : Nat) (x : AObj) : Rq n q v w ((nx, ck, x) :: hp) (nx + 1) := by
 have h1 := h.nx1
 refine ⟨by rw [za9, if_neg (by omega)]; exact h.res, by rw [za9, if_neg (by omega)]; exact h.out, ?_, by omega⟩
 rcases h.lst with h2 | ⟨id, sp, e, hl, a, b⟩
 ·exact .inl h2
 ·exact .inr ⟨id, sp, e, by rw [za9, if_neg (by omega)]; exact hl, a, by omega⟩
theorem Rq.store (h : Rq n q v w hp nx) (x : AV) : Rq n q x w (zbc 1 (1, .cells [.int .i64 n, x]) hp) nx := by
 refine ⟨by rw [za2, if_neg (by decide)]; exact h.res, by rw [za2, if_pos rfl], ?_, h.nx1⟩
 rcases h.lst with h2 | ⟨id, sp, e, hl, a, b⟩
 ·exact .inl h2
 ·exact .inr ⟨id, sp, e, by rw [za2, if_neg (by omega)]; exact hl, a, b⟩
theorem Rq.fresh2 (h : Rq n q v w hp nx) (ck : Nat) (x : AObj) (y : Nat × AObj) : Rq n q v w (zbc nx y ((nx, ck, x) :: hp)) (nx + 1) := by
 have h0 := h.nx1
 have h1 := h.fresh ck x
 refine ⟨by rw [za2, if_neg (by omega)]; exact h1.res, by rw [za2, if_neg (by omega)]; exact h1.out, ?_, h1.nx1⟩
 rcases h.lst with h2 | ⟨id, sp, e, hl, a, b⟩
 ·exact .inl h2
 ·exact .inr ⟨id, sp, e, by rw [za2, if_neg (by omega), za9, if_neg (by omega)]; exact hl, a, by omega⟩
theorem cE_snoc (q : List (Int × Int)) (x : Int × Int) : (cE q).flatten ++ [[AV.int .i64 x.1, AV.int .i64 x.2]].flatten = (cE (q ++ [x])).flatten := by
 unfold cE
 rw [List.map_append, List.flatten_append]
 rfl
theorem zmx (q : List (Int × Int)) : (cE q).flatten.length = q.length * 2 := by
 induction q with
 | nil => rfl
 | cons e q ih =>
  show ([AV.int .i64 e.1, AV.int .i64 e.2] ++ (cE q).flatten).length = _
  rw [List.length_append, ih]
  show 2 + q.length * 2 = (q.length + 1) * 2
  omega
theorem Rq.app_new (h : Rq n [] v .nils hp nx) (ck : Nat) (x : Int × Int) : Rq n [x] v (.ms nx ck 2 0 1 none) ((nx, ck, .cells [.int .i64 x.1, .int .i64 x.2]) :: hp) (nx + 1) := by
 have h1 := h.nx1
 exact ⟨by rw [za9, if_neg (by omega)]; exact h.res, by rw [za9, if_neg (by omega)]; exact h.out, .inr ⟨nx, ck, rfl, zaz, h1, Nat.lt_succ_self _⟩, by omega⟩
theorem Rq.app_old {id sp len : Nat} (h : Rq n q v (.ms id sp 2 0 q.length none) hp nx) (hid : 1 < id) (hn : id < nx) (ck : Nat) (x : Int × Int) : Rq n (q ++ [x]) v (.ms id ck 2 0 (q.length + 1) none) (zbc id (ck, .cells (cE (q ++ [x])).flatten) hp) nx :=
 ⟨by rw [za2, if_neg (by omega)]; exact h.res, by rw [za2, if_neg (by omega)]; exact h.out, .inr ⟨id, ck, by rw [List.length_append]; rfl, by rw [za2, if_pos rfl], hid, hn⟩, h.nx1⟩
theorem zu6 {w0 : World} {N0 nn d ck : Nat} {k : List Fr} {Q : Exit → AS → Prop} {l : List (Nat × AV)} {ios : List Opr} {bytes j sj : Nat} {x : Int × Int} {z : List AV} {s xa : Arg} (hF : Rq n q v w hp nx) (hlen : q.length ≤ 1000000) (hs : zas s l = some w) (hx : zas xa l = some (.ms j sj 2 0 1 (some 1))) (hj : Am.look j hp = some (sj, .cells [.int .i64 x.1, .int .i64 x.2])) (hb : bytes ≤ 16777216)
  (go : ∀ w' hp' nx' ck', Rq n (q ++ [x]) v w' hp' nx' → Om Try.prog w0 N0 none (KnP Try.prog w0 N0) ios (st nn ((d, w') :: l) hp' nx' ck') k Q) :
  Om Try.prog w0 N0 none (KnP Try.prog w0 N0) (⟨some d, .append 2 bytes z s xa, none⟩ :: ios) (st nn l hp nx ck) k Q := by
 have hel : ∀ l, (st nn l hp nx ck []).elems 2 (.ms j sj 2 0 1 (some 1)) = some [[.int .i64 x.1, .int .i64 x.2]] := fun l => zdk (xs := [[.int .i64 x.1, .int .i64 x.2]]) (ys := []) hj rfl fun x hx => by obtain rfl := List.mem_singleton.1 hx; rfl
 rcases hF.lst with ⟨rfl, rfl⟩ | ⟨id, sp, rfl, hl, h1, h2⟩
 ·have hi : iop (st nn l hp nx ck) (.append 2 bytes z s xa) = some (.ms nx ck 2 0 1 none, st nn l ((nx, ck, .cells [.int .i64 x.1, .int .i64 x.2]) :: hp) (nx + 1) (ck + 1)) := by
   simp only [iop, zao, hs, hx, hel]
   unfold zb0
   rw [if_neg (show ¬ [[AV.int .i64 x.1, AV.int .i64 x.2]].length = 0 from Nat.succ_ne_zero 0), if_pos (show [[AV.int .i64 x.1, AV.int .i64 x.2]].flatten.all AV.isCell = true ∧ bytes ≤ 16777216 from ⟨rfl, hb⟩)]
   rfl
  exact ze2 hi (go _ _ _ _ (hF.app_new ck x)) (fun _ _ _ _ _ _ _ => rfl)
 ·refine zea [[.int .i64 x.1, .int .i64 x.2]] hs hx (hel _) (fun h => Nat.noConfusion h) rfl hb hl (zmx q).symm (by show _ + 1 ≤ _; omega) ?_ (fun _ _ _ _ _ _ _ => rfl)
  refine go _ _ _ _ ?_
  rw [cE_snoc]
  exact hF.app_old (len := 0) h1 h2 ck x
theorem Rv.cell (h : Rv q w hp nx) : w.isCell = true ∧ w.cells? = some [w] := by
 rcases h with ⟨rfl, rfl⟩ | ⟨id, sp, rfl, hl, _, _⟩
 ·exact ⟨rfl, rfl⟩
 ·exact ⟨rfl, rfl⟩
theorem res_agg {S : AS} {a : Nat} {pa x y : AV} (h1 : S.get a = some pa) (d1 : S.deref pa = some [x, y]) : S.res [.cell a (some 2)] = some (.agg [x, y]) := by
 simp [AS.res, AS.resL, ztt, h1, d1]
theorem Rv.view {S : AS} {d : Nat} (h : Rv q w S.heap nx) : S.view (d + 1) w = .vs (cE q) := by
 rcases h with ⟨rfl, rfl⟩ | ⟨id, sp, rfl, hl, _, _⟩
 ·rfl
 ·have e : S.elems 2 (.ms id sp 2 0 q.length none) = some (cE q) := by
   obtain ⟨n, t, hp, nx, ck, mk⟩ := S
   exact zdk (ys := []) (cap := none) (n := n) (nx := nx) (ck := ck) (mk := mk) (l := []) (hp := hp) (by rw [List.append_nil]; exact hl) (zcg q) (fun x hx => by obtain ⟨s, _, rfl⟩ := List.mem_map.1 hx; rfl)
  simp only [AS.view, e]
  congr 1
  unfold cE
  rw [List.map_map]
  apply List.map_congr_left
  intro s _
  cases d <;> rfl
end
def b47_0 : IC := .seq (.region [⟨(some 13), .bin .lss (.t 12) (.t 11), none⟩] none)
 (.seq (.cond (.t 13) (.skip)
 (.exit 0))
 (.seq (.block 1 (.seq (.region [⟨(some 14), .idxs 2 (.t 10) (.t 12), none⟩,
  ⟨(some 15), .load (some 2) (.t 14), none⟩,
  ⟨(some 5), .alloc [.int .i64 0, .int .i64 0], none⟩,
  ⟨none, .store 2 (.t 5) (.t 15), none⟩] none)
 (.region [⟨(some 16), .faddr 1 (.t 3), none⟩,
  ⟨(some 17), .load none (.t 16), none⟩,
  ⟨(some 18), .faddr 1 (.t 5), none⟩,
  ⟨(some 19), .load none (.t 18), none⟩,
  ⟨(some 20), .faddr 0 (.t 5), none⟩,
  ⟨(some 21), .load none (.t 20), none⟩,
  ⟨(some 22), .build [.int .i64 0, .int .i64 0] [(0, 1, (.t 19)), (1, 1, (.t 21))], none⟩,
  ⟨(some 23), .bslice 2 1 [.int .i64 0, .int .i64 0] [(0, 2, (.t 22))], none⟩,
  ⟨(some 24), .append 2 16 [.int .i64 0, .int .i64 0] (.t 17) (.t 23), none⟩,
  ⟨(some 25), .faddr 1 (.t 3), none⟩,
  ⟨none, .store 1 (.t 25) (.t 24), none⟩] none)))
 (.region [⟨(some 26), .bin .add (.t 12) (.c (.int .i64 1)), none⟩,
  ⟨(some 12), .mov (.t 26), none⟩] none)))
-- pneumatic/digraph.reversed
def ic47 : IC := .seq (.region [⟨(some 1), .box (.t 0), none⟩,
  ⟨(some 2), .alloc [.int .i64 0, .nils], none⟩] none)
 (.seq (.region [⟨(some 6), .faddr 0 (.t 1), none⟩,
  ⟨(some 7), .load none (.t 6), none⟩,
  ⟨(some 8), .build [.int .i64 0, .nils] [(0, 1, (.t 7))], none⟩,
  ⟨(some 3), .alloc [.int .i64 0, .nils], none⟩,
  ⟨none, .store 2 (.t 3) (.t 8), none⟩] none)
 (.seq (.seq (.region [⟨(some 9), .faddr 1 (.t 1), none⟩,
  ⟨(some 10), .load none (.t 9), none⟩,
  ⟨(some 11), .len false (.t 10), none⟩,
  ⟨(some 12), .mov (.c (.int .i64 0)), none⟩] none)
 (.block 0 (.loop b47_0)))
 (.seq (.region [⟨(some 27), .load (some 2) (.t 3), none⟩,
  ⟨none, .store 2 (.t 2) (.t 27), none⟩] none)
 (.ret))))
theorem fn47 : env0.fn 47 = some ⟨28, ic47, [.cell 2 (some 2)]⟩ := by kernel_rfl
set_option maxHeartbeats 4000000 in
theorem zjn (n : Int) (es : List (Int × Int)) (he : es.length ≤ 1000000) : PF Try.prog 47 [cG n es] (cG n (swE es)) := by
 have hcl := zcg es
 refine zbg env0_ok fn47 [(0, .agg [.int .i64 n, .vs (cE es)])] (by show 1 ≤ 28; decide) rfl fun w0 N0 => ?_
 unfold ic47
 refine za7 (za0 rfl (zel rfl rfl (zcd (za6 (za4 ?_)))))
 refine zb6 [(some (1, 1), [.int .i64 0, .nils])] [(0, 0, [.int .i64 n, .vs (cE es)])] [(1, .vptr [.int .i64 n, .vs (cE es)]), (2, .mptr 0 0 0)] rfl (.cons rfl rfl .nil) (.cons rfl (.cons (.same rfl) (.cons (.same rfl) .nil)) .nil) (.cons rfl (.fptr rfl rfl) (.cons rfl (.mptr rfl) .nil)) ?_
 repeat (first | refine za7 ?_ | refine za0 rfl ?_ | refine za6 ?_ | refine za4 ?_ | refine zac ?_ | refine za5 rfl ?_ | refine zad rfl rfl ?_ | refine zbx rfl rfl rfl rfl rfl rfl rfl ?_ | refine zam rfl rfl rfl ?_ | refine zcd ?_ | refine zc4 rfl rfl ?_ | refine zfc rfl rfl ?_)
 refine zc1 (fun mm S => ∃ i v hp nx ck, mm = es.length - i ∧ i ≤ es.length ∧ Rq n (swE (es.take i)) v v hp nx ∧ S = st 28 [(2, .mptr 0 0 0), (3, .mptr 1 1 0), (10, .vs (cE es)), (11, .int .i64 ((cE es).length : Nat)), (12, .int .i64 (i : Nat))] hp nx ck) es.length
  (zaa (.cons rfl (.cons rfl (.cons rfl (.cons rfl (.cons rfl .nil)))))) ⟨0, .nils, _, _, _, rfl, Nat.zero_le _, ⟨rfl, rfl, .inl ⟨rfl, rfl⟩, by decide⟩, rfl⟩ ?_
 rintro mm S ⟨i, v, hp, nx, ck, rfl, hi, hF, rfl⟩
 have hql := swE_len es i
 unfold b47_0
 repeat (first | refine za7 ?_ | refine za0 rfl ?_)
 refine zax rfl rfl rfl (fun h3 => ?_) fun h3 => ?_
 ·have hlt : i < es.length := by
   have h4 : ((i : Nat) : Int) < (((cE es).length : Nat) : Int) := of_decide_eq_true h3
   omega
  have w1 : IntKind.wrap .i64 (((i : Nat) : Int) + 1) = ((i + 1 : Nat) : Int) := zap i (by omega)
  have hg := zrz hlt
  have hs := swE_succ hlt
  generalize es[i].1 = a at *
  generalize es[i].2 = b at *
  repeat (first | refine za7 ?_ | refine za0 rfl ?_ | refine za6 ?_ | refine za4 ?_ | refine zac ?_ | refine zal ?_ | refine zd2 rfl ?_ | refine zb1 rfl rfl rfl rfl ?_ | refine zcd ?_ | refine zay rfl rfl (by omega) (by assumption) rfl ?_)
  refine zbx (id := nx) (sp := ck) (off := 0) rfl rfl rfl rfl zaz rfl rfl ?_
  have hF1 := hF.fresh2 ck (.cells [.int .i64 0, .int .i64 0]) (ck, .cells [.int .i64 a, .int .i64 b])
  have k5 : Am.look nx (zbc nx (ck, AObj.cells [.int .i64 a, .int .i64 b]) ((nx, ck, AObj.cells [.int .i64 0, .int .i64 0]) :: hp)) = some (ck, .cells [.int .i64 a, .int .i64 b]) := by
   rw [za2, if_pos rfl]
  repeat (first | refine za0 rfl ?_ | refine za6 ?_ | refine za4 ?_ | refine zbj rfl ?_)
  refine zaj (id := 1) (sp := 1) (off := 0 + 1) rfl hF1.out hF1.nx1 rfl ?_
  repeat (first | refine zbj rfl ?_)
  refine zaj (id := nx) (sp := ck) (off := 0 + 1) rfl k5 (Nat.lt_succ_self _) rfl ?_
  repeat (first | refine zbj rfl ?_)
  refine zaj (id := nx) (sp := ck) (off := 0) rfl k5 (Nat.lt_succ_self _) rfl ?_
  repeat (first | refine zfc rfl rfl ?_ | refine zbr rfl rfl ?_)
  refine zu6 (x := (b, a)) (hF1.fresh _ (.cells [.int .i64 b, .int .i64 a])) (by omega) rfl rfl zaz (by decide) fun w' hp' nx' ck' hF2 => ?_
  repeat (first | refine zbj rfl ?_)
  refine zbs (id := 1) (sp := 1) (off := 0 + 1) rfl rfl hF2.lst.cell.2 hF2.out (by simp) hF2.lst.cell.1 ?_
  repeat (first | refine za0 rfl ?_ | refine za6 ?_ | refine za4 ?_ | refine zc5 ?_ | refine za5 rfl ?_ | refine zbp (op := .add) rfl rfl rfl ?_)
  rw [w1]
  exact zar (show es.length - (i + 1) < es.length - i by omega) (zaa (.cons rfl (.cons rfl (.cons rfl (.cons rfl (.cons rfl .nil)))))) ⟨i + 1, w', _, _, _, rfl, hlt, by rw [hs]; exact hF2.store w', rfl⟩
 ·have hie : i = es.length := by
   have h4 : ¬ ((i : Nat) : Int) < (((cE es).length : Nat) : Int) := of_decide_eq_false h3
   omega
  subst hie
  rw [List.take_length] at hF
  repeat (first | refine za7 ?_ | refine za6 ?_ | refine za4 ?_ | refine zd5 rfl ?_ | refine zc0 ?_ | refine zag ?_)
  refine zdj ?_
  repeat (first | refine za7 ?_ | refine za0 rfl ?_ | refine za4 ?_ | refine zby ?_)
  refine zpc (id := 1) (sp := 1) (off := 0) rfl hF.out hF.nx1 rfl rfl ?_
  refine zbx (id := 0) (sp := 0) (off := 0) (v := .agg [.int .i64 n, v]) (vs := [.int .i64 n, v]) rfl rfl rfl rfl hF.res rfl (by rw [List.all_cons, List.all_cons, hF.lst.cell.1]; rfl) ?_
  repeat (first | refine za6 ?_ | refine za4 ?_ | refine zb2 ?_)
  refine zau ⟨.inr rfl, _, res_agg ((zi4 2).trans rfl) (zk6 (sp := 0) (cs := [.int .i64 n, v]) (by show Am.look 0 (zbc 0 _ hp) = _; rw [za2, if_pos rfl]; rfl) (show 0 < nx by have := hF.nx1; omega) rfl), ?_⟩
  have hv : Rv (swE es) v (zbc 0 (0, .cells [.int .i64 n, v]) hp) nx := by
   rcases hF.lst with h2 | ⟨id, sp, e, hl, a, b⟩
   ·exact .inl h2
   ·exact .inr ⟨id, sp, e, by rw [za2, if_neg (by omega)]; exact hl, a, b⟩
  exact congrArg AV.agg (zik rfl hv.view)
end Go.Proofs.Ytoagikifehmlpaa
namespace Go.Proofs.Ytoagikifehmlpaa
open Go Go.Am
theorem zpy (E : List (Nat × Nat)) : swE (zaf E) = zaf (rvE E) := by
 unfold swE zaf rvE
 rw [List.map_map, List.map_map]
 rfl
end Go.Proofs.Ytoagikifehmlpaa
namespace Go.Proofs.Ytoagikifehmlpaa
open Go Go.Am
theorem zlz {l : List Nat} {i : Nat} (h : i < l.length) : ((iL l).map fun z => ([.int .i64 z] : List AV))[((i : Nat) : Int).toNat]? = some [.int .i64 (gN l i : Nat)] := by
 rw [zeu (by unfold iL; rw [List.length_map]; exact h)]
 unfold iL
 rw [List.getElem_map, zn5 h]
theorem zuo (z : Int) (h0 : 0 ≤ z) {m : Nat} (hm : m ≠ 0) : Am.binOp .rem (.int .i64 z) (.int .i64 (m : Nat)) = some (.int .i64 ((z.toNat % m : Nat) : Int)) := by
 show (if ((m : Nat) : Int) = 0 then none else some (AV.int .i64 (Int.tmod z (m : Nat)))) = _
 rw [if_neg (by omega)]
 obtain ⟨u, rfl⟩ := Int.eq_ofNat_of_zero_le h0
 rfl
end Go.Proofs.Ytoagikifehmlpaa
namespace Go.Proofs.Ytoagikifehmlpaa
open Go Go.Am
-- slices.Backward[[]int,int]
def ic63 : IC := .seq (.region [⟨(some 1), .box (.t 0), none⟩,
  ⟨(some 2), .mov (.c (.nilf)), none⟩] none)
 (.seq (.region [⟨(some 3), .mkfn 72 [] [(.t 1)], none⟩,
  ⟨(some 2), .mov (.t 3), none⟩] none)
 (.ret))
theorem fn63 : env0.fn 63 = some ⟨4, ic63, [.t 2]⟩ := by kernel_rfl
def b72_0 : IC := .seq (.seq (.region [⟨(some 7), .mov (.t 3), none⟩,
  ⟨(some 8), .bin .geq (.t 7) (.c (.int .i64 0)), none⟩] none)
 (.cond (.t 8) (.skip)
 (.exit 0)))
 (.seq (.block 1 (.seq (.region [⟨(some 11), .mov (.t 0), none⟩,
  ⟨(some 12), .mov (.t 3), none⟩,
  ⟨(some 13), .load none (.t 1), none⟩,
  ⟨(some 14), .mov (.t 3), none⟩,
  ⟨(some 15), .idxs 1 (.t 13) (.t 14), none⟩,
  ⟨(some 16), .load none (.t 15), none⟩,
  ⟨(some 17), .call (.t 11) [(.t 12), (.t 16)], none⟩,
  ⟨(some 18), .un .not (.t 17), none⟩] none)
 (.cond (.t 18) (.ret)
 (.skip))))
 (.region [⟨(some 9), .mov (.t 3), none⟩,
  ⟨(some 10), .bin .sub (.t 9) (.c (.int .i64 1)), none⟩,
  ⟨(some 3), .mov (.t 10), none⟩] none))
-- slices.Backward[[]int,int]$1
def ic72 : IC := .seq (.region [⟨(some 4), .load none (.t 1), none⟩,
  ⟨(some 5), .len false (.t 4), none⟩,
  ⟨(some 6), .bin .sub (.t 5) (.c (.int .i64 1)), none⟩,
  ⟨(some 3), .mov (.t 6), none⟩] none)
 (.block 0 (.loop b72_0))
theorem fn72 : env0.fn 72 = some ⟨19, ic72, []⟩ := by kernel_rfl
theorem zq8 (C : List Int) : PF Try.prog 63 [vsI C] (.fn 72 [] [.vptr [vsI C]]) := by
 refine zbg env0_ok fn63 [(0, vsI C)] (by show 1 ≤ 4; decide) rfl fun w0 N0 => ?_
 unfold ic63
 repeat (first | refine za7 ?_ | refine za0 rfl ?_ | refine za6 ?_ | refine za4 ?_ | refine zb2 ?_ | refine za5 rfl ?_ | refine zel rfl rfl ?_ | refine zpe rfl rfl ?_)
 exact zau ⟨.inr rfl, _, rfl, rfl⟩
structure QG (E : List (Nat × Nat)) (m s4 s5 : Nat) (ltm : List (Nat × AV)) (stt : LoopState) (g : List Int) (H : HS) : Prop where
 gm : GM E m g H.heap H.next
 h4 : Am.look 4 H.heap = some (s4, .deferred)
 h5 : Am.look 5 H.heap = some (s5, .loop stt none 80 (zgr ltm) [44, 45] zhi zhl (4, s4))
 nx : 5 < H.next
set_option maxHeartbeats 2000000 in
theorem range72 {w0 : World} {N0 m s4 s5 : Nat} {E : List (Nat × Nat)} {C : List Nat} {ltm : List (Nat × AV)} (hm : m ≤ 256) (hC : C.length = m)
  (hy : ∀ (k : Nat) (g : List Int) (H : HS), k < m → Grp E m C (k + 1) g → QG (rvE E) m s4 s5 ltm .ready g H →
   CT Try.prog w0 N0 (.yield 5 s5) [.int .i64 (k : Nat), .int .i64 (gN C k : Nat)] H fun v H' => v = .bool true ∧ ∃ g', Grp E m C k g' ∧ QG (rvE E) m s4 s5 ltm .ready g' H')
  (H : HS) (g : List Int) (hG : Grp E m C m g) (hQ : QG (rvE E) m s4 s5 ltm .ready g H) :
  FT Try.prog w0 N0 72 [.yield 5 s5, .vptr [vsI (iL C)]] H fun _ H' => ∃ g', Grp E m C 0 g' ∧ QG (rvE E) m s4 s5 ltm .ready g' H' := by
 have hvl : ((iL C).map fun z => ([.int .i64 z] : List AV)).length = m := by rw [List.length_map, zgm, hC]
 have w1 : IntKind.wrap .i64 (((m : Nat) : Int) - 1) = ((m : Nat) : Int) - 1 := zev _ (by omega) (by omega)
 refine zmn env0_ok fn72 [(0, .yield 5 s5), (1, .vptr [vsI (iL C)])] (by show 2 ≤ 19; decide) rfl ?_
 unfold ic72
 repeat (first | refine za7 ?_ | refine za0 rfl ?_ | refine za6 ?_ | refine za4 ?_ | refine zac ?_ | refine za5 rfl ?_ | refine zad rfl rfl ?_ | refine zc4 rfl rfl ?_ | refine zbp (op := .sub) rfl rfl rfl ?_)
 rw [hvl, w1]
 refine zc1 (fun mm S => ∃ k g H', mm = k ∧ k ≤ m ∧ Grp E m C k g ∧ QG (rvE E) m s4 s5 ltm .ready g H' ∧ S = st 19 [(0, .yield 5 s5), (1, .vptr [vsI (iL C)]), (3, .int .i64 (((k : Nat) : Int) - 1))] H'.heap H'.next H'.clk) m
  (zaa (.cons rfl (.cons rfl (.cons rfl .nil)))) ⟨m, g, H, rfl, Nat.le_refl _, hG, hQ, rfl⟩ ?_
 rintro k S ⟨_, g, H', rfl, hk, hG, hQ, rfl⟩
 unfold b72_0
 repeat (first | refine za7 ?_ | refine za0 rfl ?_ | refine za5 rfl ?_)
 refine zax rfl rfl rfl (fun h4 => ?_) fun h4 => ?_
 ·obtain ⟨k, rfl⟩ : ∃ v, k = v + 1 := by
   have h5 : ((k : Nat) : Int) - 1 ≥ 0 := of_decide_eq_true h4
   exact ⟨k - 1, by omega⟩
  have e1 : (((k + 1 : Nat) : Int) - 1) = (k : Nat) := by omega
  have w2 : IntKind.wrap .i64 (((k : Nat) : Int) - 1) = ((k : Nat) : Int) - 1 := zev _ (by omega) (by omega)
  have hgk := zlz (l := C) (i := k) (by omega)
  rw [e1]
  repeat (first | refine za7 ?_ | refine za0 rfl ?_ | refine za6 ?_ | refine za4 ?_ | refine zac ?_ | refine zal ?_ | refine zd2 rfl ?_ | refine za5 rfl ?_ | refine zad rfl rfl ?_ | refine zay rfl rfl (by omega) (by assumption) rfl ?_)
  refine o_ct _ rfl rfl (hy k g H' (by omega) hG hQ) (fun _ _ _ _ hm => absurd hm List.not_mem_nil) fun v H2 hF => ?_
  obtain ⟨rfl, g', hG', hQ'⟩ := hF
  repeat (first | refine za0 rfl ?_ | refine za6 ?_ | refine za4 ?_ | refine zc5 ?_ | refine zal ?_ | refine zd5 rfl ?_ | refine za5 rfl ?_ | refine o_un rfl rfl ?_ | refine zbp (op := .sub) rfl rfl rfl ?_)
  rw [w2]
  exact zar (Nat.lt_succ_self k) (zaa (.cons rfl (.cons rfl (.cons rfl .nil)))) ⟨k, g', H2, rfl, by omega, hG', hQ', rfl⟩
 ·obtain rfl : k = 0 := by
   have h5 : ¬ ((k : Nat) : Int) - 1 ≥ 0 := of_decide_eq_false h4
   omega
  repeat (first | refine za6 ?_ | refine za4 ?_ | refine zd5 rfl ?_ | refine zc0 ?_ | refine zag ?_)
  refine zdj ?_
  repeat (first | refine zby ?_)
  exact zau ⟨.inl rfl, _, rfl, g, hG, hQ⟩
def l43 (C : List Nat) (gc : List AV) : List (Nat × AV) := [(43, .fn 72 [] [.vptr [vsI (iL C)]]), (1, .vptr gc), (10, .mptr 0 0 0), (11, .mptr 2 0 0)]
set_option maxHeartbeats 4000000 in
theorem yield43 {w0 : World} {N0 m s4 s5 : Nat} {E : List (Nat × Nat)} {C : List Nat} {gc : List AV} (hm : m ≤ 256) (hb : ∀ u v, (u, v) ∈ E → u < m ∧ v < m) (hC : Cls E m C) (ha : Com Try.prog zhi zmt) (hbb : Com Try.prog zhl zui)
  (k : Nat) (g : List Int) (H : HS) (hk : k < m) (hG : Grp E m C (k + 1) g) (hQ : QG (rvE E) m s4 s5 (l43 C gc) .ready g H) :
  CT Try.prog w0 N0 (.yield 5 s5) [.int .i64 (k : Nat), .int .i64 (gN C k : Nat)] H fun v H' => v = .bool true ∧ ∃ g', Grp E m C k g' ∧ QG (rvE E) m s4 s5 (l43 C gc) .ready g' H' := by
 obtain ⟨hp, nx, ck⟩ := H
 obtain ⟨gm, h4, h5, hnx⟩ := hQ
 have gm : GM (rvE E) m g hp nx := gm
 have h4 : Am.look 4 hp = _ := h4
 have h5 : Am.look 5 hp = _ := h5
 have hnx : 5 < nx := hnx
 have hkC : k < C.length := by rw [hC.len]; exact hk
 have hvm : gN C k < m := by rw [← zn5 hkC]; exact hC.lt _ (List.getElem_mem hkC)
 refine ct_yield (l0 := (45, .int .i64 (gN C k : Nat)) :: (44, .int .i64 (k : Nat)) :: l43 C gc) h5 ha hbb rfl (by decide) rfl ?_
 show Zm _ _ _ _ _ (st 80 _ hp nx ck) _ _
 unfold zmt
 repeat (first | refine za7 ?_ | refine za0 rfl ?_ | refine za6 ?_ | refine za4 ?_ | refine za5 rfl ?_)
 refine zau ⟨rfl, _, rfl, ?_⟩
 show Zm _ _ _ _ _ (st 80 _ (zbc 5 _ hp) nx ck) _ _
 unfold zui l43
 have gm2 : GM (rvE E) m g (zbc 5 (s5, .loop .busy none 80 (zgr (l43 C gc)) [44, 45] zhi zhl (4, s4)) hp) nx :=
  ⟨by rw [za2, if_neg (by decide)]; exact gm.h0, by rw [za2, if_neg (by decide)]; exact gm.h1, by rw [za2, if_neg (by decide)]; exact gm.h2, gm.nx⟩
 have hft := zsb m hm (rvE E) (ziq hb) w0 N0 k (unF (bsG g) + 1) g (gN C k) ⟨zbc 5 (s5, .loop .busy none 80 (zgr (l43 C gc)) [44, 45] zhi zhl (4, s4)) hp, nx, ck⟩ (Nat.lt_succ_self _) hG.len hvm gm2
 repeat (first | refine za0 rfl ?_ | refine zac ?_)
 refine zaj (id := 2) (sp := 0) (off := 0) rfl gm2.h2 (by omega) rfl ?_
 repeat (first | refine za5 rfl ?_)
 refine o_ct _ rfl rfl (zsh hft) (fun _ _ _ _ hm => absurd hm List.not_mem_nil) fun v H2 hF => ?_
 obtain ⟨D, hV, hM, hK⟩ := hF
 have k4 := hK.look 4 (by decide) (by show 4 < nx; omega)
 have k5 := hK.look 5 (by decide) (by show 5 < nx; omega)
 have k4 : Am.look 4 H2.heap = some (s4, .deferred) := k4.trans (by show Am.look 4 (zbc 5 _ hp) = _; rw [za2, if_neg (by decide)]; exact h4)
 have k5 : Am.look 5 H2.heap = some (s5, .loop .busy none 80 (zgr (l43 C gc)) [44, 45] zhi zhl (4, s4)) := k5.trans (by show Am.look 5 (zbc 5 _ hp) = _; rw [za2, if_pos rfl])
 have hnx2 : 5 < H2.next := Nat.lt_of_lt_of_le (show 5 < nx from hnx) hK.next
 repeat (first | refine za6 ?_ | refine zc5 ?_)
 refine zau ⟨80, _, _, zhi, zhl, (4, s4), k5, none, rfl, rfl, zit (k : Int) g D, hG.step hb hC hk hV, ⟨?_, ?_, ?_, ?_⟩, ?_, ?_, hnx2⟩
 ·show Am.look 0 (zbc 5 _ H2.heap) = _
  rw [za2, if_neg (by decide)]; exact hM.h0
 ·show Am.look 1 (zbc 5 _ H2.heap) = _
  rw [za2, if_neg (by decide)]; exact hM.h1
 ·show Am.look 2 (zbc 5 _ H2.heap) = _
  rw [za2, if_neg (by decide)]; exact hM.h2
 ·exact hM.nx
 ·show Am.look 4 (zbc 5 _ H2.heap) = _
  rw [za2, if_neg (by decide)]; exact k4
 ·show Am.look 5 (zbc 5 _ H2.heap) = _
  rw [za2, if_pos rfl]
  rfl
end Go.Proofs.Ytoagikifehmlpaa
