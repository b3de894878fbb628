/-
  A QUEUE: a list of its own that is cut at its begin and grows at its end; steps on it.; THE DISTANCES FROM A VERTEX: far walked.; THE REFERENCE's CHECKS OF GRAPHS; small graphs.; THE LIBRARY's CONTRACTS of sort.Ints and slices.Compact, laid at this program; the same as told calls.; THE NEIGHBOURS OF ALL VERTICES: joined walked.; sort.Ints and slices.Compact of no list.; THE NEIGHBOURS OF ALL VERTI
-/
import Derived.Test.YtoagikifehmlpaaVX1
import Derived.Shelf.Sort.Plain
import Derived.Shelf.Slices.CompactI
namespace Go.Proofs.Ytoagikifehmlpaa
open Go Go.Am
def iN (q : List Nat) : List AV := q.map fun w => AV.int .i64 (w : Nat)
theorem iN_len (q : List Nat) : (iN q).length = q.length := List.length_map ..
inductive QV (hp : List (Nat × Nat × AObj)) (nx : Nat) (q : List Nat) : AV → Prop
 | lit {id sp : Nat} (a : Nat) (hq : q = [a]) (hl : Am.look id hp = some (sp, .cells (iN [a]))) (h1 : id ≠ 1) (hn : id < nx) : QV hp nx q (.ms id sp 1 0 1 (some 1))
 | gen {id sp off : Nat} {cs : List AV} (hl : Am.look id hp = some (sp, .cells cs)) (hd : cs.drop off = iN q) (h1 : id ≠ 1) (hn : id < nx) : QV hp nx q (.ms id sp 1 off q.length none)
 | nil {id sp off : Nat} (hq : q = []) : QV hp nx q (.ms id sp 1 off 0 (some 0))
structure Fq (o : List Int) (q : List Nat) (qv : AV) (hp : List (Nat × Nat × AObj)) (nx : Nat) : Prop where
 out : Am.look 1 hp = some (2, .cells (o.map (AV.int .i64)))
 nx1 : 1 < nx
 qu : QV hp nx q qv
section
variable {w0 : World} {N0 n d nx ck : Nat} {k : List Fr} {Q : Exit → AS → Prop} {o : List Int} {q : List Nat} {qv : AV} {hp : List (Nat × Nat × AObj)} {l : List (Nat × AV)} {ios : List Opr}
theorem Fq.fresh (h : Fq o q qv hp nx) (ck : Nat) (x : AObj) : Fq o q qv ((nx, ck, x) :: hp) (nx + 1) := by
 have h1 := h.nx1
 refine ⟨by rw [za9, if_neg (by omega)]; exact h.out, by omega, ?_⟩
 cases h.qu with
 | lit a hq hl h1 hn => exact .lit a hq (by rw [za9, if_neg (by omega)]; exact hl) h1 (by omega)
 | gen hl hd h1 hn => exact .gen (by rw [za9, if_neg (by omega)]; exact hl) hd h1 (by omega)
 | nil hq => exact .nil hq
theorem Fq.set (h : Fq o q qv hp nx) (v : Nat) (x : Int) : Fq (o.set v x) q qv (zbc 1 (2, .cells ((o.map (AV.int .i64)).set v (.int .i64 x))) hp) nx := by
 refine ⟨by rw [za2, if_pos rfl, ← List.map_set], h.nx1, ?_⟩
 cases h.qu with
 | lit a hq hl h1 hn => exact .lit a hq (by rw [za2, if_neg (fun e => h1 e.symm)]; exact hl) h1 hn
 | gen hl hd h1 hn => exact .gen (by rw [za2, if_neg (fun e => h1 e.symm)]; exact hl) hd h1 hn
 | nil hq => exact .nil hq
theorem o_qlen {x : Arg} (hF : Fq o q qv hp nx) (hx : zas x l = some qv) (go : Om Try.prog w0 N0 none (KnP Try.prog w0 N0) ios (st n ((d, .int .i64 (q.length : Nat)) :: l) hp nx ck) k Q) : Om Try.prog w0 N0 none (KnP Try.prog w0 N0) (⟨some d, .len false x, none⟩ :: ios) (st n l hp nx ck) k Q := by
 cases hF.qu with
 | lit a hq hl h1 hn => subst hq; exact zc4 hx rfl go
 | gen hl hd h1 hn => exact zc4 hx rfl go
 | nil hq => subst hq; exact zc4 hx rfl go
theorem zu5 {d2 a : Nat} {qs : List Nat} {x : Arg} (hF : Fq o (a :: qs) qv hp nx) (hx : zas x l = some qv) (go : ∀ p, Om Try.prog w0 N0 none (KnP Try.prog w0 N0) ios (st n ((d2, .int .i64 (a : Nat)) :: (d, p) :: l) hp nx ck) k Q) :
  Om Try.prog w0 N0 none (KnP Try.prog w0 N0) (⟨some d, .idxs 1 x (.c (.int .i64 0)), none⟩ :: ⟨some d2, .load none (.t d), none⟩ :: ios) (st n l hp nx ck) k Q := by
 have ht : ∀ p : AV, zas (.t d) ((d, p) :: l) = some p := fun p => by
  show zbi d ((d, p) :: l) = some p
  rw [zbi, Nat.beq_refl]
 cases hF.qu with
 | @lit id sp a2 hq hl h1 hn =>
  injection hq with hq _
  subst hq
  refine zb7 hx rfl (Int.le_refl 0) (by decide) ?_
  exact zaj (id := id) (sp := sp) (off := 0) (ht _) hl hn rfl (go _)
 | @gen id sp off cs hl hd h1 hn =>
  refine zb7 hx rfl (Int.le_refl 0) (by rw [List.length_cons]; omega) ?_
  refine zaj (id := id) (sp := sp) (off := off + 0 * 1) (ht _) hl hn ?_ (go _)
  have := congrArg (fun l => l[0]?) hd
  simp only [List.getElem?_drop] at this
  rw [show off + 0 * 1 = off + 0 by omega, this]
  rfl
 | nil hq => cases hq
theorem o_qapp {bytes j sj v : Nat} {z : List AV} {s x : Arg} (hF : Fq o q qv hp nx) (hne : q ≠ []) (hlen : q.length ≤ 1000000) (hs : zas s l = some qv) (hx : zas x l = some (.ms j sj 1 0 1 (some 1))) (hj : Am.look j hp = some (sj, .cells [.int .i64 (v : Nat)])) (hb : bytes ≤ 16777216)
  (go : ∀ qv' hp' nx' ck', Fq o (q ++ [v]) qv' hp' nx' → Om Try.prog w0 N0 none (KnP Try.prog w0 N0) ios (st n ((d, qv') :: l) hp' nx' ck') k Q) :
  Om Try.prog w0 N0 none (KnP Try.prog w0 N0) (⟨some d, .append 1 bytes z s x, none⟩ :: ios) (st n l hp nx ck) k Q := by
 have hel : (st n l hp nx ck []).elems 1 (.ms j sj 1 0 1 (some 1)) = some [[.int .i64 (v : Nat)]] := zdk (xs := [[.int .i64 (v : Nat)]]) (ys := []) hj rfl fun x hx => by obtain rfl := List.mem_singleton.1 hx; rfl
 have hn1 := hF.nx1
 cases hF.qu with
 | @lit id sp a hq hl h1 hn =>
  subst hq
  have hi : iop (st n l hp nx ck) (.append 1 bytes z s x) = some (.ms nx ck 1 0 2 none, st n l ((nx, ck, .cells (iN [a, v])) :: hp) (nx + 1) (ck + 1)) := by
   simp only [iop, zao, hs, hx, hel]
   unfold zb0
   rw [if_neg (show ¬ [[AV.int .i64 (v : Nat)]].length = 0 from Nat.succ_ne_zero 0), if_pos (show [[AV.int .i64 (v : Nat)]].flatten.all AV.isCell = true ∧ bytes ≤ 16777216 from ⟨rfl, hb⟩)]
   simp only [show (st n l hp nx ck []).heap = hp from rfl, hl]
   rw [if_pos (show True ∧ True ∧ 0 + 1 * 1 ≤ (iN [a]).length ∧ 1 + [[AV.int .i64 (v : Nat)]].length ≤ 1048576 from ⟨trivial, trivial, Nat.le_refl 1, (by show 2 ≤ 1048576; decide)⟩), if_neg (show ¬ 1 + [[AV.int .i64 (v : Nat)]].length ≤ 1 from (by show ¬ 2 ≤ 1; decide))]
   rfl
  refine ze2 hi (go _ _ _ _ ⟨by rw [za9, if_neg (by omega)]; exact hF.out, by omega, ?_⟩) (fun _ _ _ _ _ _ _ => rfl)
  exact .gen (q := [a, v]) (off := 0) zaz rfl (by omega) (by omega)
 | @gen id sp off cs hl hd h1 hn =>
  have e1 : cs.length - off = q.length := by rw [← List.length_drop, hd, iN_len]
  have e2 := List.length_pos_iff.2 hne
  refine zm7 [[.int .i64 (v : Nat)]] hs hx hel (Nat.succ_ne_zero 0) rfl hb hl (by omega) (by show q.length + 1 ≤ 1048576; omega) ?_ (fun _ _ _ _ _ _ _ => rfl)
  refine go _ _ _ _ ⟨by rw [za2, if_neg h1]; exact hF.out, hn1, ?_⟩
  have e3 : (cs.drop off).take (q.length * 1) ++ [[AV.int .i64 (v : Nat)]].flatten = iN (q ++ [v]) := by
   rw [hd, List.take_of_length_le (by rw [iN_len]; omega)]
   unfold iN
   rw [List.map_append]
   rfl
  rw [e3]
  have := QV.gen (hp := zbc id (ck, .cells (iN (q ++ [v]))) hp) (nx := nx) (q := q ++ [v]) (id := id) (sp := ck) (off := 0) (cs := iN (q ++ [v])) (by rw [za2, if_pos rfl]) rfl h1 hn
  rw [List.length_append] at this
  exact this
 | nil hq => exact absurd hq hne
theorem o_qcut {a : Nat} {qs : List Nat} {x : Arg} (hF : Fq o (a :: qs) qv hp nx) (hx : zas x l = some qv) (go : ∀ qv', Fq o qs qv' hp nx → Om Try.prog w0 N0 none (KnP Try.prog w0 N0) ios (st n ((d, qv') :: l) hp nx ck) k Q) :
  Om Try.prog w0 N0 none (KnP Try.prog w0 N0) (⟨some d, .slsl 1 x (some (.c (.int .i64 1))) none none, none⟩ :: ios) (st n l hp nx ck) k Q := by
 cases hF.qu with
 | @lit id sp a2 hq hl h1 hn =>
  injection hq with _ hq
  refine o_slsl (lv := some (.int .i64 1)) (hv := none) (lo := 1) (hh := ((1 : Nat) : Int)) hx rfl rfl rfl rfl (by decide) (by decide) (by decide) (go _ ⟨hF.out, hF.nx1, .nil hq⟩)
 | @gen id sp off cs hl hd h1 hn =>
  refine o_slsl (lv := some (.int .i64 1)) (hv := none) (lo := 1) (hh := (((a :: qs).length : Nat) : Int)) hx rfl rfl rfl rfl (by decide) (by rw [List.length_cons]; omega) (Int.le_refl _) (go _ ⟨hF.out, hF.nx1, ?_⟩)
  have := QV.gen (hp := hp) (nx := nx) (q := qs) (id := id) (sp := sp) (off := off + 1) (cs := cs) hl (by rw [← List.drop_drop, hd]; rfl) h1 hn
  exact this
 | nil hq => cases hq
end
end Go.Proofs.Ytoagikifehmlpaa
namespace Go.Proofs.Ytoagikifehmlpaa
open Go Go.Am
def b48_2 : IC := .seq (.region [⟨(some 31), .bin .lss (.t 30) (.t 29), none⟩] none)
 (.seq (.cond (.t 31) (.skip)
 (.exit 2))
 (.seq (.block 3 (.seq (.region [⟨(some 32), .idxs 1 (.t 28) (.t 30), none⟩,
  ⟨(some 33), .load none (.t 32), none⟩,
  ⟨(some 8), .mov (.t 33), none⟩] none)
 (.seq (.region [⟨(some 34), .mov (.t 5), none⟩,
  ⟨(some 35), .mov (.t 8), none⟩,
  ⟨(some 36), .idxs 1 (.t 34) (.t 35), none⟩,
  ⟨(some 37), .load none (.t 36), none⟩,
  ⟨(some 38), .bin .lss (.t 37) (.c (.int .i64 0)), none⟩] none)
 (.cond (.t 38) (.seq (.region [⟨(some 39), .mov (.t 5), none⟩,
  ⟨(some 40), .mov (.t 8), none⟩,
  ⟨(some 41), .mov (.t 5), none⟩,
  ⟨(some 42), .mov (.t 6), none⟩,
  ⟨(some 43), .idxs 1 (.t 42) (.c (.int .i64 0)), none⟩,
  ⟨(some 44), .load none (.t 43), none⟩,
  ⟨(some 45), .idxs 1 (.t 41) (.t 44), none⟩,
  ⟨(some 46), .load none (.t 45), none⟩,
  ⟨(some 47), .bin .add (.t 46) (.c (.int .i64 1)), none⟩,
  ⟨(some 48), .idxs 1 (.t 39) (.t 40), none⟩,
  ⟨none, .store 1 (.t 48) (.t 47), none⟩] none)
 (.region [⟨(some 49), .mov (.t 6), none⟩,
  ⟨(some 50), .mov (.t 8), none⟩,
  ⟨(some 51), .bslice 1 1 [.int .i64 0] [(0, 1, (.t 50))], none⟩,
  ⟨(some 52), .append 1 8 [.int .i64 0] (.t 49) (.t 51), none⟩,
  ⟨(some 6), .mov (.t 52), none⟩] none))
 (.skip)))))
 (.region [⟨(some 53), .bin .add (.t 30) (.c (.int .i64 1)), none⟩,
  ⟨(some 30), .mov (.t 53), none⟩] none)))
def b48_0 : IC := .seq (.seq (.region [⟨(some 18), .mov (.t 6), none⟩,
  ⟨(some 19), .len false (.t 18), none⟩,
  ⟨(some 20), .bin .gtr (.t 19) (.c (.int .i64 0)), none⟩] none)
 (.cond (.t 20) (.skip)
 (.exit 0)))
 (.seq (.block 1 (.seq (.region [⟨(some 23), .mov (.t 0), none⟩,
  ⟨(some 24), .mov (.t 6), none⟩,
  ⟨(some 25), .idxs 1 (.t 24) (.c (.int .i64 0)), none⟩,
  ⟨(some 26), .load none (.t 25), none⟩,
  ⟨(some 27), .idxs 1 (.t 23) (.t 26), none⟩,
  ⟨(some 28), .load none (.t 27), none⟩,
  ⟨(some 29), .len false (.t 28), none⟩,
  ⟨(some 30), .mov (.c (.int .i64 0)), none⟩] none)
 (.block 2 (.loop b48_2))))
 (.region [⟨(some 21), .mov (.t 6), none⟩,
  ⟨(some 22), .slsl 1 (.t 21) (some (.c (.int .i64 1))) none none, none⟩,
  ⟨(some 6), .mov (.t 22), none⟩] none))
-- (pneumatic/digraph.net).far
def ic48 : IC := .seq (.region [⟨(some 4), .mov (.c (.nils)), none⟩] none)
 (.seq (.region [⟨(some 9), .bslice 1 1 [.int .i64 0] [(0, 1, (.c (.int .i64 (-1))))], none⟩,
  ⟨(some 10), .mov (.t 0), none⟩,
  ⟨(some 11), .len false (.t 10), none⟩,
  ⟨(some 12), .call (.c (.fn 61 [] [])) [(.t 9), (.t 11)], none⟩,
  ⟨(some 5), .mov (.t 12), none⟩] none)
 (.seq (.region [⟨(some 13), .mov (.t 5), none⟩,
  ⟨(some 14), .mov (.t 1), none⟩,
  ⟨(some 15), .idxs 1 (.t 13) (.t 14), none⟩,
  ⟨none, .store 1 (.t 15) (.c (.int .i64 0)), none⟩] none)
 (.seq (.seq (.region [⟨(some 16), .mov (.t 1), none⟩,
  ⟨(some 17), .bslice 1 1 [.int .i64 0] [(0, 1, (.t 16))], none⟩,
  ⟨(some 6), .mov (.t 17), none⟩] none)
 (.block 0 (.loop b48_0)))
 (.seq (.region [⟨(some 54), .mov (.t 5), none⟩,
  ⟨(some 4), .mov (.t 54), none⟩] none)
 (.ret)))))
theorem fn48 : env0.fn 48 = some ⟨55, ic48, [.t 4]⟩ := by kernel_rfl
theorem zoy {o : List Int} {v : Nat} (h : v < o.length) : (o.map (AV.int .i64))[v]? = some (.int .i64 (gI o v)) := by
 unfold gI
 rw [List.getElem?_map, List.getD_eq_getElem?_getD, List.getElem?_eq_getElem h]
 rfl
theorem zdf : ∀ l : List Int, flat.flatL (l.map (AV.int .i64)) = true
 | [] => rfl
 | z :: l => by
  rw [List.map_cons]
  show (flat (AV.int .i64 z) && flat.flatL (l.map (AV.int .i64))) = true
  rw [zdf l]
  rfl
theorem unl_le (o : List Int) : unl o ≤ o.length := List.length_filter_le ..
def t48 (E : List (Nat × Nat)) (m : Nat) (qv : AV) (l : List Nat) (i : Nat) : List (Nat × AV) := [(0, cN E m), (5, .ms 1 2 1 0 m (some m)), (6, qv), (28, vN l), (29, .int .i64 ((l.map fun w => ([.int .i64 (w : Nat)] : List AV)).length : Nat)), (30, .int .i64 (i : Nat))]
set_option maxHeartbeats 4000000 in
theorem far48 (m : Nat) (hm : m ≤ 12) (E : List (Nat × Nat)) (hb : ∀ u v, (u, v) ∈ E → u < m ∧ v < m) (f : Nat) (hf : f < m) : PF Try.prog 48 [cN E m, .int .i64 (f : Nat)] (vsI (zef E m f m)) := by
 have ez : ∀ o : Nat, 0 + ((o : Nat) : Int).toNat * 1 = o := fun o => by simp
 have hlen : ((List.range m).map fun v => ([vN (nbr E m v)] : List AV)).length = m := by rw [List.length_map, List.length_range]
 have hb2 := fun u v h => (hb u v h).2
 refine zbg env0_ok fn48 [(0, cN E m), (1, .int .i64 (f : Nat))] (by show 2 ≤ 55; decide) rfl fun w0 N0 => ?_
 unfold ic48
 refine zb6 [] [] [(0, cN E m), (1, .int .i64 (f : Nat))] rfl .nil .nil (.cons rfl (.same rfl) (.cons rfl (.same rfl) .nil)) ?_
 repeat (first | refine za7 ?_ | refine za0 rfl ?_ | refine za6 ?_ | refine za4 ?_ | refine za5 rfl ?_ | refine zc4 rfl rfl ?_ | refine zbr rfl rfl ?_)
 rw [hlen]
 refine o_own rfl rfl (zpm hm) (zdf _) ?_
 repeat (first | refine za7 ?_ | refine za0 rfl ?_ | refine za6 ?_ | refine za4 ?_ | refine za5 rfl ?_ | refine zb7 rfl rfl (by omega) (by omega) ?_)
 rw [ez]
 refine zbs (id := 1) (sp := 2) (off := f) rfl rfl rfl rfl (by simp; exact hf) rfl ?_
 repeat (first | refine za7 ?_ | refine za0 rfl ?_ | refine za6 ?_ | refine za4 ?_ | refine zac ?_ | refine za5 rfl ?_ | refine zbr rfl rfl ?_)
 have hF0 : Fq ((List.replicate m (-1 : Int)).set f 0) [f] (.ms 2 3 1 0 1 (some 1)) ((2, 3, .cells [.int .i64 (f : Nat)]) :: zbc 1 (2, .cells (((List.replicate m (-1 : Int)).map (AV.int .i64)).set f (.int .i64 0))) [(1, 2, .cells ((List.replicate m (-1 : Int)).map (AV.int .i64))), (0, 1, .cells [.int .i64 (-1)])]) 3 :=
  ⟨by rw [za9, if_neg (by decide), za2, if_pos rfl, ← List.map_set], by decide, .lit f rfl zaz (by decide) (by decide)⟩
 have hu0 := unl_le ((List.replicate m (-1 : Int)).set f 0)
 rw [List.length_set, List.length_replicate] at hu0
 refine zc1 (fun mm S => ∃ o q qv hp nx ck, mm = 2 * unl o + q.length ∧ mm ≤ 100 ∧ Bfs E m f o q ∧ Fq o q qv hp nx ∧ S = st 55 [(0, cN E m), (5, .ms 1 2 1 0 m (some m)), (6, qv)] hp nx ck) (2 * unl ((List.replicate m (-1 : Int)).set f 0) + 1)
  (zaa (.cons rfl (.cons rfl (.cons rfl .nil)))) ⟨_, _, _, _, _, _, rfl, by omega, Bfs.start E hf, hF0, rfl⟩ ?_
 rintro mm S ⟨o, q, qv, hp, nx, ck, rfl, hmm, hB, hF, rfl⟩
 unfold b48_0
 repeat (first | refine za7 ?_ | refine za0 rfl ?_ | refine za5 rfl ?_)
 refine o_qlen hF rfl ?_
 refine zax rfl rfl rfl (fun h3 => ?_) fun h3 => ?_
 ·obtain ⟨a, qs, rfl⟩ : ∃ a qs, q = a :: qs := by
   cases q with
   | nil => exact absurd (of_decide_eq_true h3) (by decide)
   | cons a qs => exact ⟨a, qs, rfl⟩
  have ha0 := hB.inq a (List.mem_cons_self ..)
  have ham : a < m := hB.len ▸ gI_lt ha0
  have halt := zp4 hB.len hB.down a
  have hga : ((List.range m).map fun v => ([vN (nbr E m v)] : List AV))[((a : Nat) : Int).toNat]? = some [vN (nbr E m a)] := by
   rw [Int.toNat_natCast, List.getElem?_map, List.getElem?_range ham]
   rfl
  have hmem : ∀ v, v ∈ nbr E m a ↔ (a, v) ∈ E := fun v => zc3 hb2
  have hmN : ∀ v ∈ nbr E m a, v < m := fun v hv => hb2 _ _ ((hmem v).1 hv)
  obtain ⟨o9, new9, e9, hB9, hm9, _⟩ := hB.step hmem hmN
  have hvf := fun i => zq2 (d := gI o a + 1) (by omega) o qs ((nbr E m a).take i) fun v hv => by rw [hB.len]; exact hmN v (List.mem_of_mem_take hv)
  have hbig : (nbr E m a).length ≤ m := by
   unfold nbr
   refine Nat.le_trans (List.length_filter_le ..) ?_
   rw [List.length_range]
   exact Nat.le_refl _
  generalize nbr E m a = l at *
  repeat (first | refine za7 ?_ | refine za0 rfl ?_ | refine za6 ?_ | refine za4 ?_ | refine zac ?_ | refine zal ?_ | refine zd2 rfl ?_ | refine za5 rfl ?_)
  refine zu5 hF rfl fun p => ?_
  repeat (first | refine za6 ?_ | refine za4 ?_ | refine zac ?_ | refine za5 rfl ?_ | refine zad rfl rfl ?_ | refine zc4 rfl rfl ?_ | refine zay rfl rfl (by omega) (by assumption) rfl ?_)
  refine zc1 (fun mm S => ∃ i o' new qv hp nx ck, mm = l.length - i ∧ i ≤ l.length ∧ (l.take i).foldl (vis (gI o a + 1)) (o, qs) = (o', qs ++ new) ∧ Fq o' (a :: (qs ++ new)) qv hp nx ∧ S = st 55 (t48 E m qv l i) hp nx ck) l.length
   (zaa (.cons rfl (.cons rfl (.cons rfl (.cons rfl (.cons rfl (.cons rfl .nil))))))) ⟨0, o, [], _, _, _, _, rfl, Nat.zero_le _, by rw [List.append_nil]; rfl, by rw [List.append_nil]; exact hF, rfl⟩ ?_
  rintro mm S ⟨i, o', new, qv, hp, nx, ck, rfl, hi, hfo, hF, rfl⟩
  unfold b48_2 t48
  repeat (first | refine za7 ?_ | refine za0 rfl ?_)
  obtain ⟨o2, new2, e2, hx⟩ := hvf i
  obtain ⟨rfl, hnn⟩ : o' = o2 ∧ qs ++ new = qs ++ new2 := by rw [hfo] at e2; exact ⟨congrArg Prod.fst e2, congrArg Prod.snd e2⟩
  obtain rfl := List.append_cancel_left hnn
  have hol : o'.length = m := hx.len.trans hB.len
  have hcnt := hx.cnt
  rw [List.length_cons] at hmm
  refine zax rfl rfl rfl (fun h4 => ?_) fun h4 => ?_
  ·have hlt : i < l.length := by
    have h5 : ((i : Nat) : Int) < (((l.map fun w => ([.int .i64 (w : Nat)] : List AV)).length : Nat) : Int) := of_decide_eq_true h4
    rw [List.length_map] at h5
    exact Int.ofNat_lt.1 h5
   have w1 : IntKind.wrap .i64 (((i : Nat) : Int) + 1) = ((i + 1 : Nat) : Int) := zap i (by omega)
   have hgv : (l.map fun w => ([.int .i64 (w : Nat)] : List AV))[((i : Nat) : Int).toNat]? = some [.int .i64 (l[i] : Nat)] := by
    rw [Int.toNat_natCast, List.getElem?_map, List.getElem?_eq_getElem hlt]
    rfl
   have hvm := hmN l[i] (List.getElem_mem hlt)
   have hfs : (l.take (i + 1)).foldl (vis (gI o a + 1)) (o, qs) = vis (gI o a + 1) (o', qs ++ new) l[i] := by
    rw [List.take_add_one, List.getElem?_eq_getElem hlt]
    show (l.take i ++ [l[i]]).foldl _ _ = _
    rw [List.foldl_append, hfo]
    rfl
   generalize l[i] = v at *
   have hva : gI o' a = gI o a := hx.old a ha0
   repeat (first | refine za7 ?_ | refine za0 rfl ?_ | refine za6 ?_ | refine za4 ?_ | refine zac ?_ | refine zal ?_ | refine zd2 rfl ?_ | refine za5 rfl ?_ | refine zad rfl rfl ?_ | refine zay rfl rfl (by omega) (by assumption) rfl ?_ | refine zb7 rfl rfl (by omega) (by omega) ?_)
   rw [ez]
   refine zaj (id := 1) (sp := 2) (off := v) rfl hF.out hF.nx1 (zoy (by omega)) ?_
   refine zax rfl rfl rfl (fun h5 => ?_) fun h5 => ?_
   ·have h5 : gI o' v < 0 := of_decide_eq_true h5
    have w2 : IntKind.wrap .i64 (gI o a + 1) = gI o a + 1 := zev _ (by omega) (by omega)
    have hv1 : vis (gI o a + 1) (o', qs ++ new) v = (o'.set v (gI o a + 1), qs ++ new ++ [v]) := if_pos h5
    rw [hv1] at hfs
    repeat (first | refine za7 ?_ | refine za0 rfl ?_ | refine za6 ?_ | refine za4 ?_ | refine zd2 rfl ?_ | refine za5 rfl ?_)
    refine zu5 hF rfl fun p => ?_
    repeat (first | refine zb7 rfl rfl (by omega) (by omega) ?_)
    rw [ez]
    refine zaj (id := 1) (sp := 2) (off := a) rfl hF.out hF.nx1 (zoy (by omega)) ?_
    rw [hva]
    repeat (first | refine zbp (op := .add) rfl rfl rfl ?_ | refine zb7 rfl rfl (by omega) (by omega) ?_)
    rw [ez, w2]
    refine zbs (id := 1) (sp := 2) (off := v) rfl rfl rfl hF.out (by simp; omega) rfl ?_
    repeat (first | refine za0 rfl ?_ | refine za6 ?_ | refine za4 ?_ | refine za5 rfl ?_ | refine zbr rfl rfl ?_)
    have hF2 := (hF.set v (gI o a + 1)).fresh ck (.cells [.int .i64 (v : Nat)])
    refine o_qapp hF2 (List.cons_ne_nil _ _) (by rw [List.length_cons, List.length_append]; rw [List.length_append] at hm9; omega) rfl rfl zaz (by decide) fun qv' hp' nx' ck' hF' => ?_
    repeat (first | refine za0 rfl ?_ | refine za6 ?_ | refine za4 ?_ | refine zc5 ?_ | refine za5 rfl ?_ | refine zbp (op := .add) rfl rfl rfl ?_)
    rw [w1]
    refine zar (show l.length - (i + 1) < l.length - i by omega) (zaa (.cons rfl (.cons rfl (.cons rfl (.cons rfl (.cons rfl (.cons rfl .nil))))))) ⟨i + 1, _, new ++ [v], _, _, _, _, rfl, hlt, by rw [hfs, List.append_assoc], ?_, rfl⟩
    rw [← List.append_assoc]
    exact hF'
   ·have h5 : ¬ gI o' v < 0 := of_decide_eq_false h5
    have hv1 : vis (gI o a + 1) (o', qs ++ new) v = (o', qs ++ new) := if_neg h5
    rw [hv1] at hfs
    repeat (first | refine za0 rfl ?_ | refine za6 ?_ | refine za4 ?_ | refine zc5 ?_ | refine zal ?_ | refine zd5 rfl ?_ | refine za5 rfl ?_ | refine zbp (op := .add) rfl rfl rfl ?_)
    rw [w1]
    exact zar (show l.length - (i + 1) < l.length - i by omega) (zaa (.cons rfl (.cons rfl (.cons rfl (.cons rfl (.cons rfl (.cons rfl .nil))))))) ⟨i + 1, _, new, _, _, _, _, rfl, hlt, hfs, hF, rfl⟩
  ·have hie : i = l.length := by
    have h5 : ¬ ((i : Nat) : Int) < (((l.map fun w => ([.int .i64 (w : Nat)] : List AV)).length : Nat) : Int) := of_decide_eq_false h4
    rw [List.length_map] at h5
    omega
   subst hie
   rw [List.take_length, e9] at hfo
   obtain ⟨rfl, hnn⟩ : o9 = o' ∧ qs ++ new9 = qs ++ new := ⟨congrArg Prod.fst hfo, congrArg Prod.snd hfo⟩
   obtain rfl := List.append_cancel_left hnn
   repeat (first | refine za7 ?_ | refine za6 ?_ | refine za4 ?_ | refine zd5 rfl ?_ | refine zc0 ?_ | refine zag ?_)
   refine zdj ?_
   repeat (first | refine za0 rfl ?_ | refine za4 ?_ | refine zc5 ?_ | refine zby ?_ | refine za5 rfl ?_)
   refine o_qcut hF rfl fun qv' hF' => ?_
   repeat (first | refine za6 ?_ | refine za5 rfl ?_)
   exact zar hm9 (zaa (.cons rfl (.cons rfl (.cons rfl .nil)))) ⟨_, _, _, _, _, _, rfl, by rw [List.length_cons] at hm9; omega, hB9, hF', rfl⟩
 ·obtain rfl : q = [] := by
   cases q with
   | nil => rfl
   | cons a qs =>
    have h4 : ¬ (((a :: qs).length : Nat) : Int) > 0 := of_decide_eq_false h3
    rw [List.length_cons] at h4
    omega
  have he := hB.end.unique (zfr hf hb2)
  subst he
  repeat (first | refine za6 ?_ | refine za4 ?_ | refine zd5 rfl ?_ | refine zc0 ?_ | refine zag ?_)
  refine zdj ?_
  repeat (first | refine za7 ?_ | refine za0 rfl ?_ | refine za6 ?_ | refine za4 ?_ | refine zb2 ?_ | refine zby ?_ | refine za5 rfl ?_)
  refine zau ⟨.inr rfl, _, rfl, ?_⟩
  exact zd0 _ (by have := hB.len; exact this) hF.out
end Go.Proofs.Ytoagikifehmlpaa
namespace Go.Proofs.Ytoagikifehmlpaa
open Go Go.Am
-- pneumatic/pneumaticref10.Vertex
def ic53 : IC := .seq (.region [⟨(some 2), .box (.t 0), none⟩,
  ⟨(some 4), .mov (.c (.bool false)), none⟩] none)
 (.seq (.region [⟨(some 5), .mov (.t 1), none⟩,
  ⟨(some 6), .bin .geq (.t 5) (.c (.int .i64 0)), none⟩,
  ⟨(some 7), .mov (.t 6), none⟩,
  ⟨(some 8), .mov (.t 1), some (7, true)⟩,
  ⟨(some 9), .faddr 0 (.t 2), some (7, true)⟩,
  ⟨(some 10), .load none (.t 9), some (7, true)⟩,
  ⟨(some 11), .bin .lss (.t 8) (.t 10), some (7, true)⟩,
  ⟨(some 12), .pick (.t 7) (.t 11) (.c (.bool false)), none⟩,
  ⟨(some 4), .mov (.t 12), none⟩] none)
 (.ret))
theorem fn53 : env0.fn 53 = some ⟨13, ic53, [.t 4]⟩ := by kernel_rfl
def b35_0 : IC := .seq (.seq (.region [⟨(some 16), .mov (.t 3), none⟩,
  ⟨(some 17), .faddr 1 (.t 1), none⟩,
  ⟨(some 18), .load none (.t 17), none⟩,
  ⟨(some 19), .len false (.t 18), none⟩,
  ⟨(some 20), .bin .lss (.t 16) (.t 19), none⟩] none)
 (.cond (.t 20) (.skip)
 (.exit 0)))
 (.seq (.block 1 (.seq (.region [⟨(some 23), .load (some 2) (.t 1), none⟩,
  ⟨(some 24), .faddr 1 (.t 1), none⟩,
  ⟨(some 25), .load none (.t 24), none⟩,
  ⟨(some 26), .mov (.t 3), none⟩,
  ⟨(some 27), .idxs 2 (.t 25) (.t 26), none⟩,
  ⟨(some 28), .faddr 0 (.t 27), none⟩,
  ⟨(some 29), .load none (.t 28), none⟩,
  ⟨(some 30), .call (.c (.fn 53 [] [])) [(.t 23), (.t 29)], none⟩,
  ⟨(some 31), .un .not (.t 30), none⟩,
  ⟨(some 32), .mov (.t 31), none⟩,
  ⟨(some 33), .load (some 2) (.t 1), some (32, false)⟩,
  ⟨(some 34), .faddr 1 (.t 1), some (32, false)⟩,
  ⟨(some 35), .load none (.t 34), some (32, false)⟩,
  ⟨(some 36), .mov (.t 3), some (32, false)⟩,
  ⟨(some 37), .idxs 2 (.t 35) (.t 36), some (32, false)⟩,
  ⟨(some 38), .faddr 1 (.t 37), some (32, false)⟩,
  ⟨(some 39), .load none (.t 38), some (32, false)⟩,
  ⟨(some 40), .call (.c (.fn 53 [] [])) [(.t 33), (.t 39)], some (32, false)⟩,
  ⟨(some 41), .un .not (.t 40), some (32, false)⟩,
  ⟨(some 42), .pick (.t 32) (.c (.bool true)) (.t 41), none⟩] (some [[], [], [1], [], [2, 3], [4], [5], [0, 6], [7], [8, 7], [9], [9], [11, 9], [9], [12, 13, 9], [14, 9], [15, 9], [10, 16, 9, 9], [17, 9], [9, 18]]))
 (.cond (.t 42) (.seq (.region [⟨(some 2), .mov (.c (.int .i64 2)), none⟩] none)
 (.ret))
 (.skip))))
 (.region [⟨(some 21), .mov (.t 3), none⟩,
  ⟨(some 22), .bin .add (.t 21) (.c (.int .i64 1)), none⟩,
  ⟨(some 3), .mov (.t 22), none⟩] none))
-- pneumatic/pneumaticref10.Check
def ic35 : IC := .seq (.region [⟨(some 1), .box (.t 0), none⟩,
  ⟨(some 2), .mov (.c (.int .i64 0)), none⟩] none)
 (.seq (.seq (.region [⟨(some 4), .faddr 0 (.t 1), none⟩,
  ⟨(some 5), .load none (.t 4), none⟩,
  ⟨(some 6), .bin .lss (.t 5) (.c (.int .i64 0)), none⟩,
  ⟨(some 7), .mov (.t 6), none⟩,
  ⟨(some 8), .faddr 0 (.t 1), some (7, false)⟩,
  ⟨(some 9), .load none (.t 8), some (7, false)⟩,
  ⟨(some 10), .bin .gtr (.t 9) (.c (.int .i64 256)), some (7, false)⟩,
  ⟨(some 11), .pick (.t 7) (.c (.bool true)) (.t 10), none⟩] none)
 (.cond (.t 11) (.seq (.region [⟨(some 2), .mov (.c (.int .i64 2)), none⟩] none)
 (.ret))
 (.skip)))
 (.seq (.seq (.region [⟨(some 12), .faddr 1 (.t 1), none⟩,
  ⟨(some 13), .load none (.t 12), none⟩,
  ⟨(some 14), .len false (.t 13), none⟩,
  ⟨(some 15), .bin .gtr (.t 14) (.c (.int .i64 4096)), none⟩] none)
 (.cond (.t 15) (.seq (.region [⟨(some 2), .mov (.c (.int .i64 5)), none⟩] none)
 (.ret))
 (.skip)))
 (.seq (.seq (.region [⟨(some 3), .mov (.c (.int .i64 0)), none⟩] none)
 (.block 0 (.loop b35_0)))
 (.seq (.region [⟨(some 2), .mov (.c (.int .i64 0)), none⟩] none)
 (.ret)))))
theorem fn35 : env0.fn 35 = some ⟨43, ic35, [.t 2]⟩ := by kernel_rfl
theorem zpz (n : Int) (es : List (Int × Int)) (v : Int) : PF Try.prog 53 [cG n es, .int .i64 v] (.bool (!zf3 n v)) := by
 refine zbg env0_ok fn53 [(0, .agg [.int .i64 n, .vs (cE es)]), (1, .int .i64 v)] (by show 2 ≤ 13; decide) rfl fun w0 N0 => ?_
 unfold ic53
 refine za7 (za0 rfl (zel rfl rfl (za5 rfl (za6 (za4 ?_)))))
 refine zb6 [] [(0, 0, [.int .i64 n, .vs (cE es)])] [(1, .int .i64 v), (2, .vptr [.int .i64 n, .vs (cE es)])] rfl (.cons rfl rfl .nil) .nil (.cons rfl (.same rfl) (.cons rfl (.fptr rfl rfl) .nil)) ?_
 unfold zf3
 repeat (first | refine za7 ?_ | refine za0 rfl ?_ | refine za5 rfl ?_)
 refine zax rfl rfl rfl (fun h5 => ?_) fun h5 => ?_
 ·have h5 : v ≥ 0 := of_decide_eq_true h5
  repeat (first | refine zg4 rfl ?_ | refine za5 rfl ?_ | refine zad rfl rfl ?_ | refine zam rfl rfl rfl ?_)
  refine zax rfl rfl rfl (fun h6 => ?_) fun h6 => ?_
  ·have h6 : v < n := of_decide_eq_true h6
   repeat (first | refine za6 ?_ | refine za4 ?_ | refine zb2 ?_ | refine za5 rfl ?_ | refine zbb rfl rfl ?_)
   exact zau ⟨.inr rfl, _, rfl, by rw [decide_eq_false (by omega), decide_eq_false (by omega)]; rfl⟩
  ·have h6 : ¬ v < n := of_decide_eq_false h6
   repeat (first | refine za6 ?_ | refine za4 ?_ | refine zb2 ?_ | refine za5 rfl ?_ | refine zbb rfl rfl ?_)
   exact zau ⟨.inr rfl, _, rfl, by rw [decide_eq_false (by omega), decide_eq_true (by omega)]; rfl⟩
 ·have h5 : ¬ v ≥ 0 := of_decide_eq_false h5
  repeat (first | refine za6 ?_ | refine za4 ?_ | refine zb2 ?_ | refine o_gn rfl rfl ?_ | refine za5 rfl ?_ | refine zba rfl rfl ?_)
  exact zau ⟨.inr rfl, _, rfl, by rw [decide_eq_true (by omega)]; rfl⟩
theorem zsn {n : Int} {es : List (Int × Int)} {i : Nat} (h : i < es.length) : zmj n (es.drop i) = if zf3 n es[i].1 = true then 2 else if zf3 n es[i].2 = true then 2 else zmj n (es.drop (i + 1)) := by
 rw [List.drop_eq_getElem_cons h, zlp]
 unfold zhb
 rw [List.any_cons, List.any_cons, List.any_nil, Bool.or_false]
 cases zf3 n es[i].1 <;> cases zf3 n es[i].2 <;> rfl
theorem zqp {f : FuncId} {args bs : List AV} {v w : AV} {l : List (FuncId × List AV × AV)} (h : bs ≠ args) (k : zf9 l f args = some w) : zf9 ((f, bs, v) :: l) f args = some w := by
 simp [zf9, h, k]
set_option maxHeartbeats 2000000 in
theorem check35 (n : Int) (es : List (Int × Int)) : PF Try.prog 35 [cG n es] (.int .i64 (zd6 n es)) := by
 have hcl := zcg es
 refine zbg env0_ok fn35 [(0, .agg [.int .i64 n, .vs (cE es)])] (by show 1 ≤ 43; decide) rfl fun w0 N0 => ?_
 unfold ic35
 refine za7 (za0 rfl (zel rfl rfl (za5 rfl (za6 (za4 ?_)))))
 refine zb6 [] [(0, 0, [.int .i64 n, .vs (cE es)])] [(1, .vptr [.int .i64 n, .vs (cE es)])] rfl (.cons rfl rfl .nil) .nil (.cons rfl (.fptr rfl rfl) .nil) ?_
 repeat (first | refine za7 ?_ | refine za0 rfl ?_ | refine zad rfl rfl ?_ | refine zam rfl rfl rfl ?_)
 refine zax rfl rfl rfl (fun h => ?_) fun h => ?_
 ·repeat (first | refine za7 ?_ | refine za0 rfl ?_ | refine za6 ?_ | refine za4 ?_ | refine zd2 rfl ?_ | refine zb2 ?_ | refine zan ?_ | refine o_gn rfl rfl ?_ | refine za5 rfl ?_ | refine zbb rfl rfl ?_)
  exact zau ⟨.inr rfl, _, rfl, by rw [zs5 (of_decide_eq_true h)]; rfl⟩
 have h0 : ¬ n < 0 := of_decide_eq_false h
 repeat (first | refine zg4 rfl ?_ | refine za5 rfl ?_ | refine zad rfl rfl ?_ | refine zam rfl rfl rfl ?_)
 refine zax rfl rfl rfl (fun h => ?_) fun h => ?_
 ·repeat (first | refine za7 ?_ | refine za0 rfl ?_ | refine za6 ?_ | refine za4 ?_ | refine zd2 rfl ?_ | refine zb2 ?_ | refine zan ?_ | refine za5 rfl ?_ | refine zba rfl rfl ?_)
  exact zau ⟨.inr rfl, _, rfl, by rw [zs3 (of_decide_eq_true h)]; rfl⟩
 have h1 : ¬ n > 256 := of_decide_eq_false h
 repeat (first | refine za7 ?_ | refine za0 rfl ?_ | refine za6 ?_ | refine za4 ?_ | refine zal ?_ | refine zd5 rfl ?_ | refine zad rfl rfl ?_ | refine zam rfl rfl rfl ?_ | refine zba rfl rfl ?_ | refine zc4 rfl rfl ?_)
 refine zax rfl rfl rfl (fun h => ?_) fun h => ?_
 ·have h2 : (((cE es).length : Nat) : Int) > 4096 := of_decide_eq_true h
  repeat (first | refine za7 ?_ | refine za0 rfl ?_ | refine za6 ?_ | refine za4 ?_ | refine zd2 rfl ?_ | refine zb2 ?_ | refine zan ?_ | refine za5 rfl ?_)
  exact zau ⟨.inr rfl, _, rfl, by rw [zol h0 h1 (by omega)]; rfl⟩
 have h2 : ¬ (((cE es).length : Nat) : Int) > 4096 := of_decide_eq_false h
 rw [zs4 h0 h1 (by omega)]
 repeat (first | refine za7 ?_ | refine za0 rfl ?_ | refine za6 ?_ | refine za4 ?_ | refine zac ?_ | refine zal ?_ | refine zd5 rfl ?_ | refine za5 rfl ?_)
 refine zc1 (fun mm S => ∃ i, mm = es.length - i ∧ i ≤ es.length ∧ zmj n (es.drop i) = zmj n es ∧ S = st 43 [(1, .vptr [.int .i64 n, .vs (cE es)]), (3, .int .i64 (i : Nat))] [] 0 1) es.length
  (zaa (.cons rfl (.cons rfl .nil))) ⟨0, rfl, Nat.zero_le _, rfl, rfl⟩ ?_
 rintro mm S ⟨i, rfl, hi, hv, rfl⟩
 unfold b35_0
 repeat (first | refine za7 ?_ | refine za0 rfl ?_ | refine za5 rfl ?_ | refine zad rfl rfl ?_ | refine zam rfl rfl rfl ?_ | refine zc4 rfl rfl ?_)
 refine zax rfl rfl rfl (fun h3 => ?_) fun h3 => ?_
 ·have hlt : i < es.length := by
   have h4 : ((i : Nat) : Int) < (((cE es).length : Nat) : Int) := of_decide_eq_true h3
   omega
  have w1 : IntKind.wrap .i64 (((i : Nat) : Int) + 1) = ((i + 1 : Nat) : Int) := zap i (by omega)
  have hg := zrz hlt
  have hs := zsn (n := n) hlt
  have pa := zpz n es es[i].1
  have pb := zpz n es es[i].2
  generalize es[i].1 = a at *
  generalize es[i].2 = b at *
  repeat (first | refine za7 ?_ | refine za6 ?_ | refine za4 ?_ | refine zac ?_ | refine zal ?_ | refine zd2 rfl ?_)
  refine zl8 env0_ok [(53, [cG n es, .int .i64 a], .bool (!zf3 n a)), (53, [cG n es, .int .i64 b], .bool (!zf3 n b))] (fun x hx => by
   rcases List.mem_cons.1 hx with rfl | hx
   ·exact pa
   obtain rfl := List.mem_singleton.1 hx
   exact pb) (fun f => Nat.beq f 53) rfl rfl rfl ?_
  have lkb : zf9 [(53, [cG n es, .int .i64 a], .bool (!zf3 n a)), (53, [cG n es, .int .i64 b], .bool (!zf3 n b))] 53 [cG n es, .int .i64 b] = some (.bool (!zf3 n b)) := by
   by_cases hab : a = b
   ·subst hab
    exact zdg
   ·exact zqp (fun e => hab (by simpa using e)) zdg
  repeat (first | refine za5 rfl ?_ | refine zad rfl rfl ?_ | refine zb1 rfl rfl rfl rfl ?_ | refine zam rfl rfl rfl ?_ | refine zay rfl rfl (by omega) (by assumption) rfl ?_)
  refine zb3 rfl rfl zdg (fun h => Bool.noConfusion (show false = true from h)) ?_
  cases ea : zf3 n a with
  | true =>
   rw [ea, if_pos rfl, hv] at hs
   repeat (first | refine za7 ?_ | refine za0 rfl ?_ | refine za6 ?_ | refine za4 ?_ | refine zd2 rfl ?_ | refine zb2 ?_ | refine zan ?_ | refine zbz ?_ | refine o_gn rfl rfl ?_ | refine za5 rfl ?_ | refine zbb rfl rfl ?_ | refine o_un rfl rfl ?_)
   exact zau ⟨.inr rfl, _, rfl, by rw [hs]; rfl⟩
  | false =>
   rw [ea, if_neg Bool.false_ne_true] at hs
   rw [ea] at lkb
   repeat (first | refine zg4 rfl ?_ | refine za5 rfl ?_ | refine zad rfl rfl ?_ | refine zb1 rfl rfl rfl rfl ?_ | refine zam rfl rfl rfl ?_ | refine o_un rfl rfl ?_ | refine zay rfl rfl (by omega) (by assumption) rfl ?_)
   refine zb3 rfl rfl lkb (fun h => Bool.noConfusion (show false = true from h)) ?_
   cases eb : zf3 n b with
   | true =>
    rw [eb, if_pos rfl, hv] at hs
    repeat (first | refine za7 ?_ | refine za0 rfl ?_ | refine za6 ?_ | refine za4 ?_ | refine zd2 rfl ?_ | refine zb2 ?_ | refine zan ?_ | refine zbz ?_ | refine zg4 rfl ?_ | refine za5 rfl ?_ | refine zba rfl rfl ?_ | refine o_un rfl rfl ?_)
    exact zau ⟨.inr rfl, _, rfl, by rw [hs]; rfl⟩
   | false =>
    rw [eb, if_neg Bool.false_ne_true, hv] at hs
    repeat (first | refine za0 rfl ?_ | refine za6 ?_ | refine za4 ?_ | refine zc5 ?_ | refine zal ?_ | refine zd5 rfl ?_ | refine zg4 rfl ?_ | refine za5 rfl ?_ | refine zba rfl rfl ?_ | refine o_un rfl rfl ?_ | refine zbp (op := .add) rfl rfl rfl ?_)
    rw [w1]
    exact zar (show es.length - (i + 1) < es.length - i by omega) (zaa (.cons rfl (.cons rfl .nil))) ⟨i + 1, rfl, hlt, hs.symm, rfl⟩
 ·have hie : i = es.length := by
   have h4 : ¬ ((i : Nat) : Int) < (((cE es).length : Nat) : Int) := of_decide_eq_false h3
   omega
  rw [hie, List.drop_length] at hv
  repeat (first | refine za6 ?_ | refine za4 ?_ | refine zd5 rfl ?_ | refine zc0 ?_ | refine zag ?_)
  refine zdj ?_
  repeat (first | refine za7 ?_ | refine za0 rfl ?_ | refine za6 ?_ | refine za4 ?_ | refine zb2 ?_ | refine zby ?_ | refine za5 rfl ?_)
  exact zau ⟨.inr rfl, _, rfl, by rw [← hv]; rfl⟩
def zj0 (n : Int) (es : List (Int × Int)) (l : List Int) : Int := if zd6 n es = 0 then zhb n l else zd6 n es
end Go.Proofs.Ytoagikifehmlpaa
namespace Go.Proofs
open Go.Shelf
def Try.lays191_ren : Go.Shelf.Ren := ⟨fun | 191 => 64 | 189 => 73 | 125 => 78 | 257 => 77 | 128 => 88 | 129 => 89 | 294 => 79 | 295 => 80 | 296 => 81 | 297 => 82 | 298 => 83 | 299 => 84 | 216 => 85 | 300 => 86 | 301 => 87 | 328 => 90 | 329 => 91 | 330 => 92 | 331 => 93 | 332 => 94 | 215 => 95 | 343 => 96 | n => n, fun | 28 => 33 | 0 => 0 | 3 => 3 | 46 => 95 | 51 => 99 | 53 => 102 | 4 => 4 | 183 => 109 | 182 => 108 | 131 => 89 | 5 => 5 | 9 => 9 | 218 => 116 | 222 => 120 | 228 => 122 | 229 => 123 | n => n, fun | n => n⟩
theorem Try.lays191 : Go.Proofs.Lays.n191 Try.prog Try.lays191_ren := {
 mixed := by kernel_rfl
 f125 := Try.func78.trans (congrArg some (by kernel_rfl))
 f128 := Try.func88.trans (congrArg some (by kernel_rfl))
 f129 := Try.func89.trans (congrArg some (by kernel_rfl))
 f189 := Try.func73.trans (congrArg some (by kernel_rfl))
 f191 := Try.func64.trans (congrArg some (by kernel_rfl))
 f215 := Try.func95.trans (congrArg some (by kernel_rfl))
 f216 := Try.func85.trans (congrArg some (by kernel_rfl))
 f257 := Try.func77.trans (congrArg some (by kernel_rfl))
 f294 := Try.func79.trans (congrArg some (by kernel_rfl))
 f295 := Try.func80.trans (congrArg some (by kernel_rfl))
 f296 := Try.func81.trans (congrArg some (by kernel_rfl))
 f297 := Try.func82.trans (congrArg some (by kernel_rfl))
 f298 := Try.func83.trans (congrArg some (by kernel_rfl))
 f299 := Try.func84.trans (congrArg some (by kernel_rfl))
 f300 := Try.func86.trans (congrArg some (by kernel_rfl))
 f301 := Try.func87.trans (congrArg some (by kernel_rfl))
 f328 := Try.func90.trans (congrArg some (by kernel_rfl))
 f329 := Try.func91.trans (congrArg some (by kernel_rfl))
 f330 := Try.func92.trans (congrArg some (by kernel_rfl))
 f331 := Try.func93.trans (congrArg some (by kernel_rfl))
 f332 := Try.func94.trans (congrArg some (by kernel_rfl))
 f343 := Try.func96.trans (congrArg some (by kernel_rfl))
 t0 := Try.underlying0
 a0 := Try.isAgg0
 z0 := Try.sizeOf0
 v0 := Try.zeroValue0
 t3 := Try.underlying3
 a3 := Try.isAgg3
 z3 := Try.sizeOf3
 v3 := Try.zeroValue3
 t4 := Try.underlying4
 a4 := Try.isAgg4
 z4 := Try.sizeOf4
 v4 := Try.zeroValue4
 t5 := Try.underlying5
 a5 := Try.isAgg5
 z5 := Try.sizeOf5
 v5 := Try.zeroValue5
 t9 := Try.underlying9
 a9 := Try.isAgg9
 z9 := Try.sizeOf9
 v9 := Try.zeroValue9
 t28 := Try.underlying33
 a28 := Try.isAgg33
 z28 := Try.sizeOf33
 v28 := Try.zeroValue33
 t46 := Try.underlying95
 a46 := Try.isAgg95
 z46 := Try.sizeOf95
 v46 := Try.zeroValue95
 t51 := Try.underlying99
 a51 := Try.isAgg99
 z51 := Try.sizeOf99
 v51 := Try.zeroValue99
 t53 := Try.underlying102
 a53 := Try.isAgg102
 z53 := Try.sizeOf102
 v53 := Try.zeroValue102
 t131 := Try.underlying89
 a131 := Try.isAgg89
 z131 := Try.sizeOf89
 v131 := Try.zeroValue89
 t182 := Try.underlying108
 a182 := Try.isAgg108
 z182 := Try.sizeOf108
 v182 := Try.zeroValue108
 t183 := Try.underlying109
 a183 := Try.isAgg109
 z183 := Try.sizeOf109
 v183 := Try.zeroValue109
 t218 := Try.underlying116
 a218 := Try.isAgg116
 z218 := Try.sizeOf116
 v218 := Try.zeroValue116
 t222 := Try.underlying120
 a222 := Try.isAgg120
 z222 := Try.sizeOf120
 v222 := Try.zeroValue120
 t228 := Try.underlying122
 a228 := Try.isAgg122
 z228 := Try.sizeOf122
 v228 := Try.zeroValue122
 t229 := Try.underlying123
 a229 := Try.isAgg123
 z229 := Try.sizeOf123
 v229 := Try.zeroValue123 }
open Go.Sort Go.RowKit in
theorem Try.sort_Ints (blk off cap : Nat) (zs : List Int) (w : World) (hH : Holds (Value.int .i64) w blk off zs.toArray) (hblk : blk < w.heap.size) (hsz : zs.length < 4611686018427387904) :
  Calls Try.prog 64 #[.slice (some ⟨blk, off, none⟩) zs.length cap] w fun e w' =>
   e = .returned (.tuple #[]) ∧ ∃ n os, w' = grow (putRow (Value.int .i64) (Sort.ahead w n) blk off (zs.mergeSort fun x y => decide (x ≤ y)).toArray) os := Any.sort_Ints Try.lays191 blk off cap zs w hH hblk hsz
def Try.laysNm220_ren : Go.Shelf.Ren := ⟨fun | 20 => 65 | n => n, fun | 22 => 33 | 3 => 3 | 4 => 4 | 0 => 0 | n => n, fun | n => n⟩
theorem Try.laysNm220 : Go.Proofs.Lays2.n20 Try.prog Try.laysNm220_ren := {
 mixed := by kernel_rfl
 f20 := Try.func65.trans (congrArg some (by kernel_rfl))
 t0 := Try.underlying0
 a0 := Try.isAgg0
 z0 := Try.sizeOf0
 v0 := Try.zeroValue0
 t3 := Try.underlying3
 a3 := Try.isAgg3
 z3 := Try.sizeOf3
 v3 := Try.zeroValue3
 t4 := Try.underlying4
 a4 := Try.isAgg4
 z4 := Try.sizeOf4
 v4 := Try.zeroValue4
 t22 := Try.underlying33
 a22 := Try.isAgg33
 z22 := Try.sizeOf33
 v22 := Try.zeroValue33
 i3 := by kernel_rfl }
open Go.RowKit Go.Lib Go.Sort in
theorem Try.slices_Compact_int (blk off cap : Nat) (zs : List Int) (w : World) (hH : Holds (Value.int .i64) w blk off zs.toArray) (hsz : zs.length ≤ 9223372036854775807) (hcap : zs.length ≤ cap) :
  Calls Try.prog 65 #[.slice (some ⟨blk, off, none⟩) zs.length cap] w fun e w' => e = .returned (.slice (some ⟨blk, off, none⟩) (Lib.compact zs).length cap) ∧ ∃ q, w' = putRow (Value.int .i64) (Sort.ahead w q) blk off (Lib.compact zs ++ List.replicate (zs.length - (Lib.compact zs).length) 0).toArray := Any.slices_Compact_int Try.laysNm220 blk off cap zs w hH hsz hcap
namespace Ytoagikifehmlpaa
open Go Go.Am Go.RowKit
theorem ent64 : Ent Try.prog 64 := zsp Try.func64 rfl (by kernel_rfl)
theorem ent65 : Ent Try.prog 65 := zsp Try.func65 rfl (by kernel_rfl)
theorem sorts64 : Sorts Try.prog 64 := fun blk off cap zs w hH hb hz => Try.sort_Ints blk off cap zs w hH hb hz
theorem cpts65 : Cpts Try.prog 65 := fun blk off cap zs w hH hz hc => Try.slices_Compact_int blk off cap zs w hH hz hc
end Ytoagikifehmlpaa
end Go.Proofs
namespace Go.Proofs.Ytoagikifehmlpaa
open Go Go.Am
def b45_0 : IC := .seq (.region [⟨(some 14), .bin .lss (.t 13) (.t 12), none⟩] none)
 (.seq (.cond (.t 14) (.skip)
 (.exit 0))
 (.seq (.block 1 (.seq (.region [⟨(some 15), .idxs 2 (.t 11) (.t 13), none⟩,
  ⟨(some 16), .load (some 2) (.t 15), none⟩,
  ⟨(some 5), .alloc [.int .i64 0, .int .i64 0], none⟩,
  ⟨none, .store 2 (.t 5) (.t 16), none⟩] none)
 (.region [⟨(some 17), .mov (.t 3), none⟩,
  ⟨(some 18), .faddr 0 (.t 5), none⟩,
  ⟨(some 19), .load none (.t 18), none⟩,
  ⟨(some 20), .mov (.t 3), none⟩,
  ⟨(some 21), .faddr 0 (.t 5), none⟩,
  ⟨(some 22), .load none (.t 21), none⟩,
  ⟨(some 23), .idxs 1 (.t 20) (.t 22), none⟩,
  ⟨(some 24), .load none (.t 23), none⟩,
  ⟨(some 25), .faddr 1 (.t 5), none⟩,
  ⟨(some 26), .load none (.t 25), none⟩,
  ⟨(some 27), .bslice 1 1 [.int .i64 0] [(0, 1, (.t 26))], none⟩,
  ⟨(some 28), .append 1 8 [.int .i64 0] (.t 24) (.t 27), none⟩,
  ⟨(some 29), .idxs 1 (.t 17) (.t 19), none⟩,
  ⟨none, .store 1 (.t 29) (.t 28), none⟩] (some [[], [], [1], [], [], [4], [3, 5], [6], [], [8], [9], [7, 10], [0, 2, 0, 1, 2, 3, 4, 5, 6, 7, 8, 9, 10, 11], [12, 11, 11, 0, 1, 2, 3, 4, 5, 6, 7, 8, 9, 10, 11]]))))
 (.region [⟨(some 30), .bin .add (.t 13) (.c (.int .i64 1)), none⟩,
  ⟨(some 13), .mov (.t 30), none⟩] none)))
def b45_2 : IC := .seq (.region [⟨(some 34), .bin .lss (.t 33) (.t 32), none⟩] none)
 (.seq (.cond (.t 34) (.skip)
 (.exit 2))
 (.seq (.block 3 (.seq (.region [⟨(some 35), .mov (.t 33), none⟩,
  ⟨(some 6), .mov (.t 35), none⟩] none)
 (.seq (.region [⟨(some 36), .mov (.t 3), none⟩,
  ⟨(some 37), .mov (.t 6), none⟩,
  ⟨(some 38), .idxs 1 (.t 36) (.t 37), none⟩,
  ⟨(some 39), .load none (.t 38), none⟩,
  ⟨(some 40), .call (.c (.fn 64 [] [])) [(.t 39)], none⟩] none)
 (.region [⟨(some 41), .mov (.t 3), none⟩,
  ⟨(some 42), .mov (.t 6), none⟩,
  ⟨(some 43), .mov (.t 3), none⟩,
  ⟨(some 44), .mov (.t 6), none⟩,
  ⟨(some 45), .idxs 1 (.t 43) (.t 44), none⟩,
  ⟨(some 46), .load none (.t 45), none⟩,
  ⟨(some 47), .call (.c (.fn 65 [] [])) [(.t 46)], none⟩,
  ⟨(some 48), .idxs 1 (.t 41) (.t 42), none⟩,
  ⟨none, .store 1 (.t 48) (.t 47), none⟩] none))))
 (.region [⟨(some 49), .bin .add (.t 33) (.c (.int .i64 1)), none⟩,
  ⟨(some 33), .mov (.t 49), none⟩] none)))
-- pneumatic/digraph.joined
def ic45 : IC := .seq (.region [⟨(some 1), .box (.t 0), none⟩,
  ⟨(some 2), .mov (.c (.nils)), none⟩] none)
 (.seq (.region [⟨(some 7), .faddr 0 (.t 1), none⟩,
  ⟨(some 8), .load none (.t 7), none⟩,
  ⟨(some 9), .mkslice 1 24 [.nils] (.t 8) (.t 8), none⟩,
  ⟨(some 3), .mov (.t 9), none⟩] none)
 (.seq (.seq (.region [⟨(some 10), .faddr 1 (.t 1), none⟩,
  ⟨(some 11), .load none (.t 10), none⟩,
  ⟨(some 12), .len false (.t 11), none⟩,
  ⟨(some 13), .mov (.c (.int .i64 0)), none⟩] none)
 (.block 0 (.loop b45_0)))
 (.seq (.seq (.region [⟨(some 31), .mov (.t 3), none⟩,
  ⟨(some 32), .len false (.t 31), none⟩,
  ⟨(some 33), .mov (.c (.int .i64 0)), none⟩] none)
 (.block 2 (.loop b45_2)))
 (.seq (.region [⟨(some 50), .mov (.t 3), none⟩,
  ⟨(some 2), .mov (.t 50), none⟩] none)
 (.ret)))))
theorem fn45 : env0.fn 45 = some ⟨51, ic45, [.t 2]⟩ := by kernel_rfl
def reg45i : List Opr := [⟨(some 17), .mov (.t 3), none⟩, ⟨(some 18), .faddr 0 (.t 5), none⟩, ⟨(some 19), .load none (.t 18), none⟩, ⟨(some 20), .mov (.t 3), none⟩, ⟨(some 21), .faddr 0 (.t 5), none⟩, ⟨(some 22), .load none (.t 21), none⟩, ⟨(some 23), .idxs 1 (.t 20) (.t 22), none⟩, ⟨(some 24), .load none (.t 23), none⟩, ⟨(some 25), .faddr 1 (.t 5), none⟩, ⟨(some 26), .load none (.t 25), none⟩, ⟨(some 27), .bslice 1 1 [.int .i64 0] [(0, 1, (.t 26))], none⟩, ⟨(some 28), .append 1 8 [.int .i64 0] (.t 24) (.t 27), none⟩, ⟨(some 29), .idxs 1 (.t 17) (.t 19), none⟩, ⟨none, .store 1 (.t 29) (.t 28), none⟩]
def reg45p : List (List Nat) := [[], [], [1], [], [], [4], [3, 5], [6], [], [8], [9], [7, 10], [0, 2, 0, 1, 2, 3, 4, 5, 6, 7, 8, 9, 10, 11], [12, 11, 11, 0, 1, 2, 3, 4, 5, 6, 7, 8, 9, 10, 11]]
structure Rw (m : Nat) (L : Nat → List Int) (nz : Nat → Bool) (cv : Nat → AV) (C : Nat → List Int) (ids sps : Nat → Nat) : Prop where
 some : ∀ v, v < m → nz v = true → L v ≠ [] ∧ C v = L v ∧ cv v = .ms (ids v) (sps v) 1 0 (L v).length none
 none : ∀ v, v < m → nz v = false → L v = [] ∧ cv v = .nils
theorem zj8 {d : Nat} {v : AV} {l l' : List (Nat × AV)} (h : KeepA l l') (hd : ∀ x ∈ l', x.1 ≠ d) : KeepA ((d, v) :: l) l' := by
 induction h with
 | nil => exact .nil
 | @cons e u l2 h _ ih =>
  refine .cons ?_ (ih fun x hx => hd x (List.mem_cons_of_mem _ hx))
  have := hd (e, u) (List.mem_cons_self ..)
  rw [zbi]
  cases hb : Nat.beq d e with
  | true => exact absurd (Nat.eq_of_beq_eq_true hb).symm this
  | false => exact h
set_option maxHeartbeats 2000000 in
theorem reg45 {w0 : World} {N0 : Nat} {k : List Fr} {Q : Exit → AS → Prop} {y : IC} {m : Nat} {L : Nat → List Int} {nz : Nat → Bool} {cv : Nat → AV} {C : Nat → List Int} {ids sps : Nat → Nat} {hp : List (Nat × Nat × AObj)} {nx ck j s5 a b : Nat} {l : List (Nat × AV)}
  (hJ : Jn m nz cv C ids sps hp nx) (hR : Rw m L nz cv C ids sps) (k5 : Am.look j hp = some (s5, .cells [.int .i64 (a : Nat), .int .i64 (b : Nat)])) (hjn : j < nx) (hjd : ∀ v, v < m → nz v = true → ids v ≠ j) (ha : a < m) (hL : (L a).length ≤ 100000)
  (h3 : zbi 3 l = some (.ms 0 1 1 0 m (some m))) (h5 : zbi 5 l = some (.mptr j s5 0)) {l' : List (Nat × AV)} (hk : KeepA l l') (hd : ∀ x ∈ l', x.1 < 17)
  (fin : ∀ hp' nx' ck' nz' cv' C' ids' sps', Jn m nz' cv' C' ids' sps' hp' nx' → Rw m (upd L a (L a ++ [((b : Nat) : Int)])) nz' cv' C' ids' sps' → Zm Try.prog w0 N0 none y (st 51 l' hp' nx' ck') k Q) :
  Zm Try.prog w0 N0 none (.region reg45i (some reg45p)) (st 51 l hp nx ck) (.blk 1 :: .seq y :: k) Q := by
 have ez : ∀ o : Nat, 0 + ((o : Nat) : Int).toNat * 1 = o := fun o => by simp
 have hld0 : (fun i => Nat.beq i 0 || Nat.beq i j) 0 = true := rfl
 have hldj : (fun i => Nat.beq i 0 || Nat.beq i j) j = true := by show (Nat.beq j 0 || Nat.beq j j) = true; rw [Nat.beq_refl, Bool.or_true]
 refine z_cut env0_ok 12 [] (fun x hx => by cases hx) (fun _ => false) (fun i => Nat.beq i 0 || Nat.beq i j) (fun i => !(Nat.beq i 0 || Nat.beq i j)) (fun i h1 h2 => by rw [h1] at h2; cases h2) rfl rfl rfl rfl ?_
 show Om _ _ _ _ _ [_, _, _, _, _, _, _, _, _, _, _, _] _ _ _
 refine za5 h3 ?_
 refine zbj h5 ?_
 refine zaj (id := j) (sp := s5) (off := 0) rfl k5 hjn rfl ?_ (zts rfl hldj)
 refine za5 h3 ?_
 refine zbj h5 ?_
 refine zaj (id := j) (sp := s5) (off := 0) rfl k5 hjn rfl ?_ (zts rfl hldj)
 refine zb7 rfl rfl (Int.natCast_nonneg a) (Int.ofNat_lt.2 ha) ?_
 rw [ez]
 refine zaj (id := 0) (sp := 1) (off := a) rfl hJ.top hJ.nx0 (hJ.get ha) ?_ (zts rfl hld0)
 refine zbj h5 ?_
 refine zaj (id := j) (sp := s5) (off := 0 + 1) rfl k5 hjn rfl ?_ (zts rfl hldj)
 refine zbr rfl rfl ?_ rfl
 have J1 := hJ.fresh ck (.cells [.int .i64 (b : Nat)])
 have hel : ∀ l : List (Nat × AV), (st 51 l ((nx, ck, AObj.cells [.int .i64 (b : Nat)]) :: hp) (nx + 1) (ck + 1) []).elems 1 (.ms nx ck 1 0 1 (some 1)) = some [[.int .i64 (b : Nat)]] := fun l => zdk (xs := [[.int .i64 (b : Nat)]]) (ys := []) zaz rfl fun x hx => by obtain rfl := List.mem_singleton.1 hx; rfl
 cases hz : nz a with
 | false =>
  obtain ⟨e1, e2⟩ := hR.none a ha hz
  have J2 := (J1.add a (ck + 1) [((b : Nat) : Int)]).cset a (.ms (nx + 1) (ck + 1) 1 0 1 none)
  refine zpb (v := .ms (nx + 1) (ck + 1) 1 0 1 none) (hp' := (nx + 1, ck + 1, .cells [.int .i64 (b : Nat)]) :: (nx, ck, .cells [.int .i64 (b : Nat)]) :: hp) (nx' := nx + 1 + 1) (ck' := ck + 1 + 1) (congrArg some e2) rfl (hel []) rfl ?_ (napOk (congrArg some e2))
  refine za6 (zau ⟨rfl, fun rd => ?_⟩)
  refine AnyF.one 12 rfl (zq6 (i := 12) rfl rfl (zn7 rfl rfl (Int.natCast_nonneg a) (Int.ofNat_lt.2 ha)) ?_)
  rw [ez]
  refine AnyF.one 13 rfl (zlc (i := 13) rfl (zg8 (id := 0) (sp := 1) (off := a) rfl rfl rfl rfl (J1.add a (ck + 1) [((b : Nat) : Int)]).top (Nat.ble_eq_true_of_le (by simp; omega)) rfl) ?_)
  rw [zis (by simp; exact ha)]
  refine AnyF.fin rfl (Um.ok (zc5 (za4 (zvo (zaa (l' := l') ?_) (fin _ _ _ _ _ _ _ _ J2 ?_)))))
  ·repeat (refine zj8 ?_ (fun x hx => by have := hd x hx; omega))
   exact hk
  ·constructor
   ·intro v hv hz'
    by_cases e : v = a
    ·subst e
     rw [zae, zae, zae, zae, zae, e1]
     exact ⟨List.cons_ne_nil _ _, rfl, rfl⟩
    ·rw [za8 _ _ e] at hz'
     rw [za8 _ _ e, za8 _ _ e, za8 _ _ e, za8 _ _ e, za8 _ _ e]
     exact hR.some v hv hz'
   ·intro v hv hz'
    by_cases e : v = a
    ·subst e
     rw [zae] at hz'
     cases hz'
    ·rw [za8 _ _ e] at hz'
     rw [za8 _ _ e, za8 _ _ e]
     exact hR.none v hv hz'
 | true =>
  obtain ⟨_, e1, e2⟩ := hR.some a ha hz
  have hp9 := hJ.pos a ha hz
  have hja := hjd a ha hz
  have J2 := (J1.block ha hz (ck + 1) (L a ++ [((b : Nat) : Int)])).cset a (.ms (ids a) (ck + 1) 1 0 ((L a).length + 1) none)
  have hsd : (fun i => !(Nat.beq i 0 || Nat.beq i j)) (ids a) = true := by
   have h1 : Nat.beq (ids a) 0 = false := by
    cases hb : Nat.beq (ids a) 0 with
    | false => rfl
    | true => have := Nat.eq_of_beq_eq_true hb; omega
   have h2 : Nat.beq (ids a) j = false := by
    cases hb : Nat.beq (ids a) j with
    | false => rfl
    | true => exact absurd (Nat.eq_of_beq_eq_true hb) hja
   show (!(Nat.beq (ids a) 0 || Nat.beq (ids a) j)) = true
   rw [h1, h2]
   rfl
  have hc := J1.cell a ha hz
  rw [e1] at hc
  have ap := zi2 (n := 51) (l := (27, .ms nx ck 1 0 1 (some 1)) :: (26, .int .i64 (b : Nat)) :: (25, .mptr j s5 (0 + 1)) :: (24, cv a) :: (23, .mptr 0 1 a) :: (22, .int .i64 (a : Nat)) :: (21, .mptr j s5 (0 + 0)) :: (20, .ms 0 1 1 0 m (some m)) :: (19, .int .i64 (a : Nat)) :: (18, .mptr j s5 (0 + 0)) :: (17, .ms 0 1 1 0 m (some m)) :: l) (hp := (nx, ck, .cells [.int .i64 (b : Nat)]) :: hp) (nx := nx + 1) (ck := ck + 1) (mk := []) (sz := 1) (bytes := 8) (z := [.int .i64 0]) (s := .t 24) (x := .t 27) [[.int .i64 (b : Nat)]] (id := ids a) (sp := sps a) (len := (L a).length) (congrArg some e2) rfl (hel _) (Nat.succ_ne_zero 0) rfl (by decide) hc (by rw [List.length_map, Nat.mul_one]) (by show (L a).length + 1 ≤ 1048576; omega)
  have e0 : (L a).map (AV.int .i64) ++ [[AV.int .i64 (b : Nat)]].flatten = (L a ++ [((b : Nat) : Int)]).map (AV.int .i64) := by rw [List.map_append]; rfl
  rw [e0] at ap
  refine ze2 ap ?_ (apOk (congrArg some e2) hsd)
  refine za6 (zau ⟨rfl, fun rd => ?_⟩)
  refine AnyF.one 12 rfl (zq6 (i := 12) rfl rfl (zn7 rfl rfl (Int.natCast_nonneg a) (Int.ofNat_lt.2 ha)) ?_)
  rw [ez]
  refine AnyF.one 13 rfl (zlc (i := 13) rfl (zg8 (id := 0) (sp := 1) (off := a) rfl rfl rfl rfl (J1.block ha hz (ck + 1) (L a ++ [((b : Nat) : Int)])).top (Nat.ble_eq_true_of_le (by simp; omega)) rfl) ?_)
  rw [zis (by simp; exact ha)]
  refine AnyF.fin rfl (Um.ok (zc5 (za4 (zvo (zaa (l' := l') ?_) (fin _ _ _ _ _ _ _ _ J2 ?_)))))
  ·repeat (refine zj8 ?_ (fun x hx => by have := hd x hx; omega))
   exact hk
  ·constructor
   ·intro v hv hz'
    by_cases e : v = a
    ·subst e
     rw [zae, zae, zae, zae, List.length_append]
     exact ⟨by simp, rfl, rfl⟩
    ·rw [za8 _ _ e, za8 _ _ e, za8 _ _ e, za8 _ _ e]
     exact hR.some v hv hz'
   ·intro v hv hz'
    by_cases e : v = a
    ·subst e
     rw [hz] at hz'
     cases hz'
    ·rw [za8 _ _ e, za8 _ _ e]
     exact hR.none v hv hz'
end Go.Proofs.Ytoagikifehmlpaa
namespace Go.Proofs.Ytoagikifehmlpaa
open Go Go.Am
def tabS : Tab := [(64, [([.vs []], .tup [])]), (65, [([.vs []], .vs [])])]
theorem zv8 : TabOk Try.prog tabS := TabOk.of_run (env0_ok.tab TabOk.nil (pure := [])) (n := 60) (by kernel_rfl)
theorem ints64 : PF Try.prog 64 [.vs []] (.tup []) := zv8 _ (List.mem_cons_self ..) _ (List.mem_cons_self ..)
theorem zsc : PF Try.prog 65 [.vs []] (.vs []) := zv8 _ (List.mem_cons_of_mem _ (List.mem_cons_self ..)) _ (List.mem_cons_self ..)
end Go.Proofs.Ytoagikifehmlpaa
namespace Go.Proofs.Ytoagikifehmlpaa
open Go Go.Am
def srtc (l : List Int) : List Int := cps (srt l) ++ List.replicate ((srt l).length - (cps (srt l)).length) 0
structure Rs (m : Nat) (L : Nat → List Int) (i : Nat) (nz : Nat → Bool) (cv : Nat → AV) (C : Nat → List Int) (ids sps : Nat → Nat) : Prop where
 some : ∀ v, v < m → nz v = true → L v ≠ [] ∧ C v = (if v < i then srtc (L v) else L v) ∧ cv v = .ms (ids v) (sps v) 1 0 (if v < i then (cps (srt (L v))).length else (L v).length) none
 none : ∀ v, v < m → nz v = false → L v = [] ∧ cv v = (if v < i then .vs [] else .nils)
theorem Rs.start {m : Nat} {L : Nat → List Int} {nz : Nat → Bool} {cv : Nat → AV} {C : Nat → List Int} {ids sps : Nat → Nat} (h : Rw m L nz cv C ids sps) : Rs m L 0 nz cv C ids sps :=
 ⟨fun v hv hz => by rw [if_neg (Nat.not_lt_zero v), if_neg (Nat.not_lt_zero v)]; exact h.some v hv hz, fun v hv hz => by rw [if_neg (Nat.not_lt_zero v)]; exact h.none v hv hz⟩
theorem zqq {α : Type} {v i : Nat} (h : v ≠ i) (a b : α) : (if v < i + 1 then a else b) = if v < i then a else b := by
 by_cases e : v < i
 ·rw [if_pos e, if_pos (by omega)]
 ·rw [if_neg e, if_neg (by omega)]
def t45 (m : Nat) (i : Nat) : List (Nat × AV) := [(3, .ms 0 1 1 0 m (some m)), (32, .int .i64 (m : Nat)), (33, .int .i64 (i : Nat))]
set_option maxHeartbeats 2000000 in
theorem sort45 {w0 : World} {N0 : Nat} {m : Nat} {L : Nat → List Int} {i : Nat} {nz : Nat → Bool} {cv : Nat → AV} {C : Nat → List Int} {ids sps : Nat → Nat} {hp : List (Nat × Nat × AObj)} {nx ck : Nat} {Q : Exit → AS → Prop} (hm : m ≤ 256)
  (hJ : Jn m nz cv C ids sps hp nx) (hR : Rs m L i nz cv C ids sps) (hi : i < m) (hL : (L i).length ≤ 100000)
  (fin : ∀ l' hp' cv' C' sps', KeepA l' (t45 m (i + 1)) → Jn m nz cv' C' ids sps' hp' nx → Rs m L (i + 1) nz cv' C' ids sps' → Um Try.prog w0 N0 none .normal (st 51 l' hp' nx ck) [] Q) :
  Zm Try.prog w0 N0 none b45_2 (st 51 (t45 m i) hp nx ck) [] Q := by
 have ez : ∀ o : Nat, 0 + ((o : Nat) : Int).toNat * 1 = o := fun o => by simp
 have w1 : IntKind.wrap .i64 (((i : Nat) : Int) + 1) = ((i + 1 : Nat) : Int) := zap i (by omega)
 have hidx : ((i : Nat) : Int) < ((m : Nat) : Int) := Int.ofNat_lt.2 hi
 unfold b45_2 t45
 repeat (first | refine za7 ?_ | refine za0 rfl ?_)
 refine zii rfl rfl (by show some (AV.bool (decide (((i : Nat) : Int) < ((m : Nat) : Int)))) = _; rw [decide_eq_true hidx]) ?_
 repeat (first | refine za7 ?_ | refine za0 rfl ?_ | refine za6 ?_ | refine za4 ?_ | refine zac ?_ | refine zal ?_ | refine zd2 rfl ?_ | refine za5 rfl ?_ | refine zb7 rfl rfl (by omega) (by omega) ?_)
 rw [ez]
 refine zaj (id := 0) (sp := 1) (off := i) rfl hJ.top hJ.nx0 (hJ.get hi) ?_
 cases hz : nz i with
 | true =>
  obtain ⟨e0, e1, e2⟩ := hR.some i hi hz
  rw [if_neg (Nat.lt_irrefl i)] at e1 e2
  have hc := hJ.cell i hi hz
  rw [e1] at hc
  have hne2 : srt (L i) ≠ [] := fun e => e0 (by have := zkz (L i); rw [e] at this; exact List.length_eq_zero_iff.1 this.symm)
  have J1 := hJ.block hi hz (sps i) (srt (L i))
  have hc2 := J1.cell i hi hz
  rw [zae, zae] at hc2
  have J2 := J1.block hi hz (sps i) (srtc (L i))
  have J3 := J2.cset i (.ms (ids i) (sps i) 1 0 (cps (srt (L i))).length none)
  refine o_ct _ rfl (congrArg (fun v => some [v]) e2) (zfi (FT_sort (cap := none) (zs := L i) ent64 sorts64 e0 (by omega) hc)) (fun v H hF => fun _ h => absurd h List.not_mem_nil) fun v H hF => ?_
  obtain ⟨rfl, rfl⟩ := hF
  repeat (first | refine za0 rfl ?_ | refine za6 ?_ | refine za4 ?_ | refine za5 rfl ?_ | refine zb7 rfl rfl (by omega) (by omega) ?_)
  rw [ez]
  refine zaj (id := 0) (sp := 1) (off := i) rfl J1.top J1.nx0 (J1.get hi) ?_
  refine o_ct _ rfl (congrArg (fun v => some [v]) (e2.trans (by rw [← zkz (L i)]))) (zfi (zq4 (cap := none) (zs := srt (L i)) ent65 cpts65 hne2 (by rw [zkz]; omega) hc2)) (fun v H hF => fun _ h => absurd h List.not_mem_nil) fun v H hF => ?_
  obtain ⟨rfl, rfl⟩ := hF
  repeat (first | refine zb7 rfl rfl (by omega) (by omega) ?_)
  rw [ez]
  refine zbs (id := 0) (sp := 1) (off := i) rfl rfl rfl J2.top (by simp; exact hi) rfl ?_
  repeat (first | refine za0 rfl ?_ | refine za6 ?_ | refine za4 ?_ | refine zc5 ?_ | refine za5 rfl ?_ | refine zbp (op := .add) rfl rfl rfl ?_)
  rw [w1]
  refine fin _ _ _ _ _ ?_ J3 ?_
  ·exact .cons rfl (.cons rfl (.cons rfl .nil))
  ·constructor
   ·intro v hv hzv
    by_cases e : v = i
    ·subst e
     rw [zae, zae, zae, if_pos (Nat.lt_succ_self v), if_pos (Nat.lt_succ_self v)]
     exact ⟨e0, rfl, rfl⟩
    ·rw [za8 _ _ e, za8 _ _ e, za8 _ _ e, za8 _ _ e, za8 _ _ e]
     rw [zqq e, zqq e]
     exact hR.some v hv hzv
   ·intro v hv hzv
    have e : v ≠ i := fun e => by rw [e, hz] at hzv; cases hzv
    rw [za8 _ _ e, zqq e]
    exact hR.none v hv hzv
 | false =>
  obtain ⟨e0, e2⟩ := hR.none i hi hz
  rw [if_neg (Nat.lt_irrefl i)] at e2
  have J3 := hJ.cset i (.vs [])
  refine zb3 (vs := [.nils]) (congrArg (fun v => some [v]) e2) rfl ints64 (fun h => Bool.noConfusion (show false = true from h)) ?_
  repeat (first | refine za0 rfl ?_ | refine za6 ?_ | refine za4 ?_ | refine za5 rfl ?_ | refine zb7 rfl rfl (by omega) (by omega) ?_)
  rw [ez]
  refine zaj (id := 0) (sp := 1) (off := i) rfl hJ.top hJ.nx0 (hJ.get hi) ?_
  refine zb3 (vs := [.nils]) (congrArg (fun v => some [v]) e2) rfl zsc (fun h => Bool.noConfusion (show false = true from h)) ?_
  repeat (first | refine zb7 rfl rfl (by omega) (by omega) ?_)
  rw [ez]
  refine zbs (id := 0) (sp := 1) (off := i) rfl rfl rfl hJ.top (by simp; exact hi) rfl ?_
  repeat (first | refine za0 rfl ?_ | refine za6 ?_ | refine za4 ?_ | refine zc5 ?_ | refine za5 rfl ?_ | refine zbp (op := .add) rfl rfl rfl ?_)
  rw [w1]
  refine fin _ _ _ _ _ ?_ J3 ?_
  ·exact .cons rfl (.cons rfl (.cons rfl .nil))
  ·constructor
   ·intro v hv hzv
    have e : v ≠ i := fun e => by rw [e, hz] at hzv; cases hzv
    rw [za8 _ _ e, zqq e, zqq e]
    exact hR.some v hv hzv
   ·intro v hv hzv
    by_cases e : v = i
    ·subst e
     rw [zae, if_pos (Nat.lt_succ_self v)]
     exact ⟨e0, rfl⟩
    ·rw [za8 _ _ e, zqq e]
     exact hR.none v hv hzv
theorem zi5 {f : Nat → AV} (h : ∀ v, hasM (f v) = false) : ∀ l : List Nat, hasM.hasML (l.map f) = false
 | [] => rfl
 | v :: l => by
  rw [List.map_cons]
  show (hasM (f v) || hasM.hasML (l.map f)) = false
  rw [h v, zi5 h l]
  rfl
theorem zuh (E : List (Nat × Nat)) (v : Nat) : (raw E v).length ≤ E.length := by
 unfold raw
 rw [List.length_map]
 exact List.length_filter_le ..
set_option maxHeartbeats 2000000 in
theorem zdb (m : Nat) (hm : m ≤ 256) (E : List (Nat × Nat)) (hE : E.length ≤ 5000) (hb : ∀ u v, (u, v) ∈ E → u < m ∧ v < m) : PF Try.prog 45 [cG (m : Nat) (zaf E)] (cN E m) := by
 have hcl : (cE (zaf E)).length = E.length := by rw [zcg]; exact List.length_map ..
 refine zbg env0_ok fn45 [(0, .agg [.int .i64 (m : Nat), .vs (cE (zaf E))])] (by show 1 ≤ 51; decide) rfl fun w0 N0 => ?_
 unfold ic45
 refine za7 (za0 rfl (zel rfl rfl (za5 rfl (za6 (za4 ?_)))))
 refine zb6 [] [(0, 0, [.int .i64 (m : Nat), .vs (cE (zaf E))])] [(1, .vptr [.int .i64 (m : Nat), .vs (cE (zaf E))])] rfl (.cons rfl rfl .nil) .nil (.cons rfl (.fptr rfl rfl) .nil) ?_
 repeat (first | refine za7 ?_ | refine za0 rfl ?_ | refine zad rfl rfl ?_ | refine zam rfl rfl rfl ?_)
 refine o_mks rfl rfl ⟨Int.natCast_nonneg m, Int.le_refl _, by omega, by decide⟩ ?_
 repeat (first | refine za7 ?_ | refine za0 rfl ?_ | refine za6 ?_ | refine za4 ?_ | refine zac ?_ | refine za5 rfl ?_ | refine zad rfl rfl ?_ | refine zam rfl rfl rfl ?_ | refine zc4 rfl rfl ?_)
 have J0 : Jn m (fun _ => false) (fun _ => .nils) (fun _ => []) (fun _ => 0) (fun _ => 0) [(0, 1, AObj.cells (zeg ((m : Nat) : Int).toNat [.nils]))] 1 := by
  refine ⟨?_, fun _ _ h => (by cases h), fun _ _ h => (by cases h), fun _ _ _ _ h => (by cases h), Nat.zero_lt_one⟩
  rw [← zjm]
  rfl
 refine zc1 (fun mm S => ∃ i hp nx ck nz cv C ids sps, mm = E.length - i ∧ i ≤ E.length ∧ Jn m nz cv C ids sps hp nx ∧ Rw m (raw (E.take i)) nz cv C ids sps ∧ S = st 51 [(1, .vptr [.int .i64 (m : Nat), .vs (cE (zaf E))]), (3, .ms 0 1 1 0 m (some m)), (11, .vs (cE (zaf E))), (12, .int .i64 ((cE (zaf E)).length : Nat)), (13, .int .i64 (i : Nat))] hp nx ck) E.length
  (zaa (.cons rfl (.cons rfl (.cons rfl (.cons rfl (.cons rfl .nil)))))) ⟨0, _, _, _, _, _, _, _, _, rfl, Nat.zero_le _, J0, ⟨fun _ _ h => (by cases h), fun _ _ _ => ⟨rfl, rfl⟩⟩, rfl⟩ ?_
 rintro mm S ⟨i, hp, nx, ck, nz, cv, C, ids, sps, rfl, hi, hJ, hR, rfl⟩
 unfold b45_0
 repeat (first | refine za7 ?_ | refine za0 rfl ?_)
 refine zax rfl rfl rfl (fun h3 => ?_) fun h3 => ?_
 ·have hlt : i < E.length := by
   have h4 : ((i : Nat) : Int) < (((cE (zaf E)).length : Nat) : Int) := of_decide_eq_true h3
   omega
  have w1 : IntKind.wrap .i64 (((i : Nat) : Int) + 1) = ((i + 1 : Nat) : Int) := zap i (by omega)
  have hg := zlj hlt
  obtain ⟨ha, _⟩ := hb _ _ (List.getElem_mem hlt : (E[i].1, E[i].2) ∈ E)
  have hrs := fun v => raw_step hlt v
  repeat (first | refine za7 ?_ | refine za0 rfl ?_ | refine za6 ?_ | refine za4 ?_ | refine zac ?_ | refine zal ?_ | refine zd2 rfl ?_ | refine zb1 rfl rfl rfl rfl ?_ | refine zcd ?_ | refine zay rfl rfl (by omega) (by assumption) rfl ?_)
  refine zbx (id := nx) (sp := ck) (off := 0) rfl rfl rfl rfl zaz rfl rfl ?_
  refine za6 (za4 ?_)
  have hpn := hJ.nx0
  refine reg45 (j := nx) (s5 := ck) (a := E[i].1) (b := E[i].2) (l' := [(1, .vptr [.int .i64 (m : Nat), .vs (cE (zaf E))]), (3, .ms 0 1 1 0 m (some m)), (11, .vs (cE (zaf E))), (12, .int .i64 ((cE (zaf E)).length : Nat)), (13, .int .i64 (i : Nat))])
   ((hJ.fresh ck _).junk (j := nx) (by omega) (fun v hv hz => by have := hJ.pos v hv hz; omega) _) hR (by rw [za2, if_pos rfl]; rfl) (Nat.lt_succ_self _) (fun v hv hz => by have := hJ.pos v hv hz; omega) ha (by have := zuh (E.take i) E[i].1; rw [List.length_take] at this; omega) rfl rfl (.cons rfl (.cons rfl (.cons rfl (.cons rfl (.cons rfl .nil))))) (fun x hx => by
    simp only [List.mem_cons, List.not_mem_nil, or_false] at hx
    rcases hx with rfl | rfl | rfl | rfl | rfl <;> simp) fun hp' nx' ck' nz' cv' C' ids' sps' hJ' hR' => ?_
  repeat (first | refine za0 rfl ?_ | refine za6 ?_ | refine za5 rfl ?_ | refine zbp (op := .add) rfl rfl rfl ?_)
  rw [w1]
  refine zar (show E.length - (i + 1) < E.length - i by omega) (zaa (.cons rfl (.cons rfl (.cons rfl (.cons rfl (.cons rfl .nil)))))) ⟨i + 1, _, _, _, _, _, _, _, _, rfl, hlt, hJ', ?_, rfl⟩
  have : raw (E.take (i + 1)) = upd (raw (E.take i)) E[i].1 (raw (E.take i) E[i].1 ++ [((E[i].2 : Nat) : Int)]) := by
   funext v
   rw [hrs v]
   unfold upd
   by_cases e : v = E[i].1
   ·rw [if_pos e.symm, if_pos e, e]
   ·rw [if_neg fun h => e h.symm, if_neg e]
  rw [this]
  exact hR'
 ·have hie : i = E.length := by
   have h4 : ¬ ((i : Nat) : Int) < (((cE (zaf E)).length : Nat) : Int) := of_decide_eq_false h3
   omega
  subst hie
  rw [List.take_length] at hR
  repeat (first | refine za7 ?_ | refine za6 ?_ | refine za4 ?_ | refine zd5 rfl ?_ | refine zc0 ?_ | refine zag ?_)
  refine zdj ?_
  repeat (first | refine za7 ?_ | refine za0 rfl ?_ | refine za6 ?_ | refine za4 ?_ | refine zac ?_ | refine zby ?_ | refine za5 rfl ?_ | refine zc4 rfl rfl ?_)
  refine zc1 (fun mm S => ∃ i hp ck cv C sps, mm = m - i ∧ i ≤ m ∧ Jn m nz cv C ids sps hp nx ∧ Rs m (raw E) i nz cv C ids sps ∧ S = st 51 (t45 m i) hp nx ck) m
   (zaa (.cons rfl (.cons rfl (.cons rfl .nil)))) ⟨0, _, _, _, _, _, rfl, Nat.zero_le _, hJ, Rs.start hR, rfl⟩ ?_
  rintro mm S ⟨i, hp, ck, cv, C, sps, rfl, hi, hJ, hR, rfl⟩
  by_cases hlt : i < m
  ·exact sort45 hm hJ hR hlt (by have := zuh E i; omega) fun l' hp' cv' C' sps' hk hJ' hR' => zar (show m - (i + 1) < m - i by omega) (zaa hk) ⟨i + 1, _, _, _, _, _, rfl, hlt, hJ', hR', rfl⟩
  ·have hie : i = m := by omega
   subst hie
   unfold b45_2 t45
   repeat (first | refine za7 ?_ | refine za0 rfl ?_)
   refine zee rfl rfl (by show some (AV.bool (decide (((i : Nat) : Int) < ((i : Nat) : Int)))) = _; rw [decide_eq_false (Int.lt_irrefl _)]) ?_
   repeat (first | refine za7 ?_ | refine za6 ?_ | refine za4 ?_ | refine zd5 rfl ?_ | refine zc0 ?_ | refine zag ?_)
   refine zdj ?_
   refine zby (za4 ?_)
   refine zb6 [(some (0, 1), (List.range i).map fun v => vN (nbr E i v))] (fzJ i nz C ids sps) [(3, .ms 0 0 1 0 i (some i))] (hJ.ok _) hJ.rnF (.cons hJ.top (zus fun v hv => ?_) .nil) (.cons rfl (.ms rfl) .nil) ?_
   ·have hv := List.mem_range.1 hv
    cases hz : nz v with
    | true =>
     obtain ⟨e0, e1, e2⟩ := hR.some v hv hz
     rw [if_pos hv] at e1 e2
     rw [e2]
     have hc := zsf (es := E) (N := i) (v := v) fun u w h => (hb u w h).2
     have hfz := hJ.fzl hv hz
     rw [e1] at hfz
     refine .fms hfz (by rw [List.length_map, hc, List.length_map]) (fun x hx => by obtain ⟨s, _, rfl⟩ := List.mem_map.1 hx; rfl) ⟨(List.replicate ((srt (raw E v)).length - (cps (srt (raw E v))).length) 0).map (AV.int .i64), ?_⟩
     unfold srtc
     rw [List.drop_zero, List.map_append, hc, zfs, List.map_map]
     rfl
    | false =>
     obtain ⟨e0, e2⟩ := hR.none v hv hz
     rw [if_pos hv] at e2
     rw [e2]
     have hc := zsf (es := E) (N := i) (v := v) fun u w h => (hb u w h).2
     rw [e0] at hc
     have h0 : cps (srt []) = [] := by rw [cps_eq, show srt [] = [] from by unfold srt; simp]; rfl
     have : nbr E i v = [] := List.map_eq_nil_iff.1 (hc.symm.trans h0)
     unfold vN
     rw [this]
     exact .same rfl
   refine zb6 [] [(0, 0, (List.range i).map fun v => vN (nbr E i v))] [(3, cN E i)] rfl (.cons rfl ?_ .nil) .nil (.cons rfl ?_ .nil) ?_
   ·exact zi5 (fun v => rfl) _
   ·have := RenW.fms1 (live := []) (fz := [(0, 0, (List.range i).map fun v => vN (nbr E i v))]) (id := 0) (sp := 0) (len := i) (cap := some i) (vs := (List.range i).map fun v => vN (nbr E i v)) rfl (by rw [List.length_map, List.length_range])
    rw [List.map_map] at this
    exact this
   repeat (first | refine za7 ?_ | refine za0 rfl ?_ | refine za6 ?_ | refine za4 ?_ | refine zb2 ?_ | refine za5 rfl ?_)
   exact zau ⟨.inr rfl, _, rfl, rfl⟩
end Go.Proofs.Ytoagikifehmlpaa
namespace Go.Proofs.Ytoagikifehmlpaa
open Go Go.Am
theorem zsr (E : List (Nat × Nat)) (m f r : Nat) : zef E m f (r + 1) = E.foldl (rndE (r : Int)) (zef E m f r) := by
 unfold zef
 rw [List.range_succ, List.foldl_append]
 rfl
theorem zou (E : List (Nat × Nat)) (m f : Nat) : ∀ r, (zef E m f r).length = m := by
 have h1 : ∀ (r : Int) (E : List (Nat × Nat)) (o : List Int), (E.foldl (rndE r) o).length = o.length := by
  intro r E
  induction E with
  | nil => intro o; rfl
  | cons e E ih =>
   intro o
   rw [List.foldl_cons, ih]
   unfold rndE
   split
   ·rw [List.length_set]
   ·rfl
 intro r
 induction r with
 | zero => show ((List.replicate m (-1 : Int)).set f 0).length = m; rw [List.length_set, List.length_replicate]
 | succ r ih => rw [zsr, h1, ih]
end Go.Proofs.Ytoagikifehmlpaa
namespace Go.Proofs.Ytoagikifehmlpaa
open Go Go.Am
theorem zmv {n v : Int} (h : zf3 n v = false) : 0 ≤ v ∧ v < n := by
 unfold zf3 at h
 rw [Bool.or_eq_false_iff, decide_eq_false_iff_not, decide_eq_false_iff_not] at h
 omega
theorem verE_ok {n : Int} {l : List Int} (h : zhb n l = 0) : ∀ v ∈ l, 0 ≤ v ∧ v < n := by
 unfold zhb at h
 split at h
 ·cases h
 ·rename_i ha
  intro v hv
  refine zmv ?_
  cases hb : zf3 n v with
  | false => rfl
  | true => exact absurd (List.any_eq_true.2 ⟨v, hv, hb⟩) ha
theorem edgE_ok {n : Int} {es : List (Int × Int)} (h : zmj n es = 0) : ∀ e ∈ es, (0 ≤ e.1 ∧ e.1 < n) ∧ 0 ≤ e.2 ∧ e.2 < n := by
 unfold zmj at h
 split at h
 ·cases h
 ·rename_i ha
  intro e he
  have : (zf3 n e.1 || zf3 n e.2) = false := by
   cases hb : (zf3 n e.1 || zf3 n e.2) with
   | false => rfl
   | true => exact absurd (List.any_eq_true.2 ⟨e, he, hb⟩) ha
  rw [Bool.or_eq_false_iff] at this
  exact ⟨zmv this.1, zmv this.2⟩
theorem zj4 {n : Int} {es : List (Int × Int)} (h : zd6 n es = 0) : ∃ (m : Nat) (E : List (Nat × Nat)), n = (m : Int) ∧ es = zaf E ∧ m ≤ 256 ∧ E.length = es.length ∧ E.length ≤ 4096 ∧ ∀ u v, (u, v) ∈ E → u < m ∧ v < m := by
 unfold zd6 at h
 split at h
 ·cases h
 split at h
 ·cases h
 split at h
 ·cases h
 rename_i h0 h1 h2
 have hb := edgE_ok h
 refine ⟨n.toNat, es.map fun e => (e.1.toNat, e.2.toNat), by omega, ?_, by omega, List.length_map .., by rw [List.length_map]; omega, fun u v hm => ?_⟩
 ·unfold zaf
  rw [List.map_map]
  refine (List.map_id _).symm.trans (List.map_congr_left fun e he => ?_)
  obtain ⟨⟨a, b⟩, c, d⟩ := hb e he
  show e = (((e.1.toNat : Nat) : Int), ((e.2.toNat : Nat) : Int))
  rw [Int.toNat_of_nonneg a, Int.toNat_of_nonneg c]
 ·obtain ⟨e, he, h3⟩ := List.mem_map.1 hm
  obtain ⟨⟨a, b⟩, c, d⟩ := hb e he
  injection h3 with h3 h4
  subst h3 h4
  omega
def givV (n : Int) (es : List (Int × Int)) (l : List Int) : AV := if zj0 n es l = 0 then .tup [cN (es.map fun e => (e.1.toNat, e.2.toNat)) n.toNat, .int .i64 0] else .tup [.vs [], .int .i64 (zj0 n es l)]
theorem zej (E : List (Nat × Nat)) : ((zaf E).map fun e => (e.1.toNat, e.2.toNat)) = E := by
 unfold zaf
 rw [List.map_map]
 exact (List.map_congr_left fun e _ => rfl).trans (List.map_id _)
theorem zna {m : Nat} {E : List (Nat × Nat)} {l : List Int} (h : zj0 m (zaf E) l = 0) : givV m (zaf E) l = .tup [cN E m, .int .i64 0] := by
 unfold givV
 rw [if_pos h, zej]
 rfl
theorem zgy {n : Int} {es : List (Int × Int)} {l : List Int} (h : zj0 n es l ≠ 0) : givV n es l = .tup [.vs [], .int .i64 (zj0 n es l)] := if_neg h
-- pneumatic/digraph.given
def ic46 : IC := .seq (.region [⟨(some 2), .box (.t 0), none⟩,
  ⟨(some 4), .mov (.c (.nils)), none⟩,
  ⟨(some 5), .mov (.c (.int .i64 0)), none⟩] none)
 (.seq (.seq (.region [⟨(some 8), .load (some 2) (.t 2), none⟩,
  ⟨(some 9), .call (.c (.fn 34 [] [])) [(.t 8)], none⟩,
  ⟨(some 6), .mov (.t 9), none⟩] none)
 (.seq (.region [⟨(some 10), .mov (.t 6), none⟩,
  ⟨(some 11), .bin .neq (.t 10) (.c (.int .i64 0)), none⟩] none)
 (.cond (.t 11) (.seq (.region [⟨(some 12), .mov (.t 6), none⟩,
  ⟨(some 4), .mov (.c (.nils)), none⟩,
  ⟨(some 5), .mov (.t 12), none⟩] none)
 (.ret))
 (.skip))))
 (.seq (.seq (.region [⟨(some 13), .load (some 2) (.t 2), none⟩,
  ⟨(some 14), .mov (.t 1), none⟩,
  ⟨(some 15), .call (.c (.fn 56 [] [])) [(.t 13), (.t 14)], none⟩,
  ⟨(some 7), .mov (.t 15), none⟩] none)
 (.seq (.region [⟨(some 16), .mov (.t 7), none⟩,
  ⟨(some 17), .bin .neq (.t 16) (.c (.int .i64 0)), none⟩] none)
 (.cond (.t 17) (.seq (.region [⟨(some 18), .mov (.t 7), none⟩,
  ⟨(some 4), .mov (.c (.nils)), none⟩,
  ⟨(some 5), .mov (.t 18), none⟩] none)
 (.ret))
 (.skip))))
 (.seq (.region [⟨(some 19), .load (some 2) (.t 2), none⟩,
  ⟨(some 20), .call (.c (.fn 45 [] [])) [(.t 19)], none⟩,
  ⟨(some 4), .mov (.t 20), none⟩,
  ⟨(some 5), .mov (.c (.int .i64 0)), none⟩] none)
 (.ret))))
theorem fn46 : env0.fn 46 = some ⟨21, ic46, [.t 4, .t 5]⟩ := by kernel_rfl
set_option maxHeartbeats 1000000 in
theorem zt6 (n : Int) (es : List (Int × Int)) (l : List Int) (hl : l.length ≤ 1000000) : PF Try.prog 46 [cG n es, vsI l] (givV n es l) := by
 have p34 := zn0 n es
 have p56 := zq0 n es l hl
 refine zbg env0_ok fn46 [(0, .agg [.int .i64 n, .vs (cE es)]), (1, vsI l)] (by show 2 ≤ 21; decide) rfl fun w0 N0 => ?_
 unfold ic46
 refine za7 (za0 rfl (zel rfl rfl (za5 rfl (za5 rfl (za6 (za4 ?_))))))
 refine zb6 [] [(0, 0, [.int .i64 n, .vs (cE es)])] [(1, vsI l), (2, .vptr [.int .i64 n, .vs (cE es)])] rfl (.cons rfl rfl .nil) .nil (.cons rfl (.same rfl) (.cons rfl (.fptr rfl rfl) .nil)) ?_
 repeat (first | refine za7 ?_ | refine za0 rfl ?_ | refine zb1 rfl rfl rfl rfl ?_)
 refine zb3 rfl rfl p34 (fun h => Bool.noConfusion (show false = true from h)) ?_
 repeat (first | refine za7 ?_ | refine za0 rfl ?_ | refine za6 ?_ | refine za4 ?_ | refine za5 rfl ?_)
 refine zax rfl rfl rfl (fun h => ?_) fun h => ?_
 ·have h : ¬ zd6 n es = 0 := by simpa using h
  have hg : zj0 n es l = zd6 n es := if_neg h
  rw [zgy (by rw [hg]; exact h), hg]
  repeat (first | refine za7 ?_ | refine za0 rfl ?_ | refine za6 ?_ | refine za4 ?_ | refine zd2 rfl ?_ | refine zb2 ?_ | refine zan ?_ | refine za5 rfl ?_)
  exact zau ⟨.inr rfl, _, rfl, rfl⟩
 have h : zd6 n es = 0 := by simpa using h
 have hg : zj0 n es l = zhb n l := if_pos h
 repeat (first | refine za7 ?_ | refine za0 rfl ?_ | refine za6 ?_ | refine za4 ?_ | refine zal ?_ | refine zd5 rfl ?_ | refine za5 rfl ?_ | refine zb1 rfl rfl rfl rfl ?_)
 refine zb3 rfl rfl p56 (fun h => Bool.noConfusion (show false = true from h)) ?_
 repeat (first | refine za7 ?_ | refine za0 rfl ?_ | refine za6 ?_ | refine za4 ?_ | refine za5 rfl ?_)
 refine zax rfl rfl rfl (fun h1 => ?_) fun h1 => ?_
 ·have h1 : ¬ zhb n l = 0 := by simpa using h1
  rw [zgy (by rw [hg]; exact h1), hg]
  repeat (first | refine za7 ?_ | refine za0 rfl ?_ | refine za6 ?_ | refine za4 ?_ | refine zd2 rfl ?_ | refine zb2 ?_ | refine zan ?_ | refine za5 rfl ?_)
  exact zau ⟨.inr rfl, _, rfl, rfl⟩
 have h1 : zhb n l = 0 := by simpa using h1
 obtain ⟨m, E, rfl, rfl, hm, _, hE, hb⟩ := zj4 h
 rw [zna (hg.trans h1)]
 have p45 := zdb m hm E (by omega) hb
 repeat (first | refine za7 ?_ | refine za0 rfl ?_ | refine za6 ?_ | refine za4 ?_ | refine zal ?_ | refine zd5 rfl ?_ | refine zb1 rfl rfl rfl rfl ?_)
 refine zb3 rfl rfl p45 (fun h => Bool.noConfusion (show false = true from h)) ?_
 repeat (first | refine za6 ?_ | refine za4 ?_ | refine zb2 ?_ | refine za5 rfl ?_)
 exact zau ⟨.inr rfl, _, rfl, rfl⟩
def disV (n : Int) (es : List (Int × Int)) (v : Int) : AV := if zj0 n es [v] = 0 then .tup [vsI (zef (es.map fun e => (e.1.toNat, e.2.toNat)) n.toNat v.toNat n.toNat), .int .i64 0] else .tup [.vs [], .int .i64 (zj0 n es [v])]
theorem zn3 {m f : Nat} {E : List (Nat × Nat)} (h : zj0 m (zaf E) [(f : Int)] = 0) : disV m (zaf E) f = .tup [vsI (zef E m f m), .int .i64 0] := by
 unfold disV
 rw [if_pos h, zej]
 rfl
theorem disV_err {n : Int} {es : List (Int × Int)} {v : Int} (h : zj0 n es [v] ≠ 0) : disV n es v = .tup [.vs [], .int .i64 (zj0 n es [v])] := if_neg h
theorem giv_ok {n : Int} {es : List (Int × Int)} {l : List Int} (h : zj0 n es l = 0) : zd6 n es = 0 ∧ zhb n l = 0 := by
 unfold zj0 at h
 split at h
 ·rename_i hc; exact ⟨hc, h⟩
 ·rename_i hc; exact absurd h hc
-- pneumatic/digraph.Distances
def ic22 : IC := .seq (.region [⟨(some 2), .box (.t 0), none⟩,
  ⟨(some 4), .mov (.c (.nils)), none⟩,
  ⟨(some 5), .mov (.c (.int .i64 0)), none⟩] none)
 (.seq (.region [⟨(some 9), .load (some 2) (.t 2), none⟩,
  ⟨(some 10), .mov (.t 1), none⟩,
  ⟨(some 11), .bslice 1 1 [.int .i64 0] [(0, 1, (.t 10))], none⟩,
  ⟨(some 12), .call (.c (.fn 46 [] [])) [(.t 9), (.t 11)], none⟩,
  ⟨(some 8), .mov (.t 12), none⟩,
  ⟨(some 13), .extract (.t 8) 0, none⟩,
  ⟨(some 14), .extract (.t 8) 1, none⟩,
  ⟨(some 6), .mov (.t 13), none⟩,
  ⟨(some 7), .mov (.t 14), none⟩] none)
 (.seq (.seq (.region [⟨(some 15), .mov (.t 7), none⟩,
  ⟨(some 16), .bin .neq (.t 15) (.c (.int .i64 0)), none⟩] none)
 (.cond (.t 16) (.seq (.region [⟨(some 17), .mov (.t 7), none⟩,
  ⟨(some 4), .mov (.c (.nils)), none⟩,
  ⟨(some 5), .mov (.t 17), none⟩] none)
 (.ret))
 (.skip)))
 (.seq (.region [⟨(some 18), .mov (.t 6), none⟩,
  ⟨(some 19), .mov (.t 1), none⟩,
  ⟨(some 20), .call (.c (.fn 48 [] [])) [(.t 18), (.t 19)], none⟩,
  ⟨(some 4), .mov (.t 20), none⟩,
  ⟨(some 5), .mov (.c (.int .i64 0)), none⟩] none)
 (.ret))))
theorem fn22 : env0.fn 22 = some ⟨21, ic22, [.t 4, .t 5]⟩ := by kernel_rfl
set_option maxHeartbeats 1000000 in
theorem zht (n : Int) (es : List (Int × Int)) (hn : zd6 n es = 0 → n ≤ 12) (v : Int) : PF Try.prog 22 [cG n es, .int .i64 v] (disV n es v) := by
 have p46 := zt6 n es [v] (by simp)
 refine zbg env0_ok fn22 [(0, .agg [.int .i64 n, .vs (cE es)]), (1, .int .i64 v)] (by show 2 ≤ 21; decide) rfl fun w0 N0 => ?_
 unfold ic22
 refine za7 (za0 rfl (zel rfl rfl (za5 rfl (za5 rfl (za6 (za4 ?_))))))
 refine zb6 [] [(0, 0, [.int .i64 n, .vs (cE es)])] [(1, .int .i64 v), (2, .vptr [.int .i64 n, .vs (cE es)])] rfl (.cons rfl rfl .nil) .nil (.cons rfl (.same rfl) (.cons rfl (.fptr rfl rfl) .nil)) ?_
 repeat (first | refine za7 ?_ | refine za0 rfl ?_ | refine za5 rfl ?_ | refine zb1 rfl rfl rfl rfl ?_)
 refine o_fsl [[.int .i64 v]] rfl rfl rfl rfl ?_
 refine zb3 rfl rfl p46 (fun h => Bool.noConfusion (show false = true from h)) ?_
 by_cases hg : zj0 n es [v] = 0
 ·obtain ⟨hc, hv⟩ := giv_ok hg
  obtain ⟨v0, v1⟩ := verE_ok hv v (by simp)
  have hn := hn hc
  obtain ⟨m, E, rfl, rfl, hm, _, hE, hb⟩ := zj4 hc
  obtain ⟨f, rfl⟩ := Int.eq_ofNat_of_zero_le v0
  rw [zna hg, zn3 hg]
  have p48 := far48 m (by omega) E hb f (by omega)
  repeat (first | refine za7 ?_ | refine za0 rfl ?_ | refine za6 ?_ | refine za4 ?_ | refine zal ?_ | refine zd5 rfl ?_ | refine za5 rfl ?_ | refine zbh rfl rfl ?_ | refine zee rfl rfl rfl ?_)
  refine zb3 rfl rfl p48 (fun h => Bool.noConfusion (show false = true from h)) ?_
  repeat (first | refine za6 ?_ | refine za4 ?_ | refine zb2 ?_ | refine za5 rfl ?_)
  exact zau ⟨.inr rfl, _, rfl, rfl⟩
 ·rw [zgy hg, disV_err hg]
  repeat (first | refine za7 ?_ | refine za0 rfl ?_ | refine za6 ?_ | refine za4 ?_ | refine za5 rfl ?_ | refine zbh rfl rfl ?_)
  refine zax rfl rfl rfl (fun h => ?_) fun h => absurd (by simpa using h) hg
  repeat (first | refine za7 ?_ | refine za0 rfl ?_ | refine za6 ?_ | refine za4 ?_ | refine zd2 rfl ?_ | refine zb2 ?_ | refine zan ?_ | refine za5 rfl ?_)
  exact zau ⟨.inr rfl, _, rfl, rfl⟩
end Go.Proofs.Ytoagikifehmlpaa
namespace Go.Proofs.Ytoagikifehmlpaa
open Go Go.Am
-- (pneumatic/digraph.net).led$1
def ic67 : IC := .seq (.region [⟨(some 4), .mov (.c (.bool false)), none⟩] none)
 (.seq (.region [⟨(some 5), .load none (.t 1), none⟩,
  ⟨(some 6), .mov (.t 0), none⟩,
  ⟨(some 7), .idxs 1 (.t 5) (.t 6), none⟩,
  ⟨(some 8), .load none (.t 7), none⟩,
  ⟨(some 9), .bin .geq (.t 8) (.c (.int .i64 0)), none⟩,
  ⟨(some 10), .mov (.t 9), none⟩,
  ⟨(some 11), .load none (.t 1), some (10, true)⟩,
  ⟨(some 12), .mov (.t 0), some (10, true)⟩,
  ⟨(some 13), .idxs 1 (.t 11) (.t 12), some (10, true)⟩,
  ⟨(some 14), .load none (.t 13), some (10, true)⟩,
  ⟨(some 15), .load none (.t 1), some (10, true)⟩,
  ⟨(some 16), .load none (.t 2), some (10, true)⟩,
  ⟨(some 17), .idxs 1 (.t 15) (.t 16), some (10, true)⟩,
  ⟨(some 18), .load none (.t 17), some (10, true)⟩,
  ⟨(some 19), .bin .sub (.t 18) (.c (.int .i64 1)), some (10, true)⟩,
  ⟨(some 20), .bin .eql (.t 14) (.t 19), some (10, true)⟩,
  ⟨(some 21), .pick (.t 10) (.t 20) (.c (.bool false)), none⟩,
  ⟨(some 4), .mov (.t 21), none⟩] (some [[], [], [0, 1], [2], [3], [4], [5], [5], [6, 7, 5], [8, 5], [5], [5], [10, 11, 5], [12, 5], [13, 5], [9, 14, 5], [5, 15], [16, 5, 0, 1, 2, 3, 4, 5, 6, 7, 8, 9, 10, 11, 12, 13, 14, 15, 16]]))
 (.ret))
theorem fn67 : env0.fn 67 = some ⟨22, ic67, [.t 4]⟩ := by kernel_rfl
set_option maxRecDepth 100000 in
set_option maxHeartbeats 1000000 in
theorem pred67 (back : List Int) (w v : Nat) (hw : w < back.length) (hv : v < back.length) (lo : -1 ≤ gI back v) (hi : gI back v ≤ 1000000) : PF Try.prog 67 [.int .i64 (w : Nat), .vptr [vsI back], .vptr [.int .i64 (v : Nat)]] (.bool (prB back v w)) := by
 have hgw : (back.map fun z => ([.int .i64 z] : List AV))[((w : Nat) : Int).toNat]? = some [.int .i64 (gI back w)] := by rw [zeu hw]; unfold gI; rw [List.getD_eq_getElem?_getD, List.getElem?_eq_getElem hw]; rfl
 have hgv : (back.map fun z => ([.int .i64 z] : List AV))[((v : Nat) : Int).toNat]? = some [.int .i64 (gI back v)] := by rw [zeu hv]; unfold gI; rw [List.getD_eq_getElem?_getD, List.getElem?_eq_getElem hv]; rfl
 refine zbg env0_ok fn67 [(0, .int .i64 (w : Nat)), (1, .vptr [vsI back]), (2, .vptr [.int .i64 (v : Nat)])] (by show 3 ≤ 22; decide) rfl fun w0 N0 => ?_
 unfold ic67 prB
 have w1 : IntKind.wrap .i64 (gI back v - 1) = gI back v - 1 := zev _ (by omega) (by omega)
 repeat (first | refine za7 ?_ | refine za0 rfl ?_ | refine za6 ?_ | refine za4 ?_ | refine za5 rfl ?_ | refine zad rfl rfl ?_ | refine zhc env0_ok rfl rfl rfl ?_ | refine zay rfl rfl (by omega) (by assumption) rfl ?_)
 refine zax rfl rfl rfl (fun h1 => ?_) fun h1 => ?_
 ·have h1 : decide (gI back w ≥ 0) = true := h1
  rw [h1]
  repeat (first | refine zg4 rfl ?_ | refine za5 rfl ?_ | refine zad rfl rfl ?_ | refine zbp (op := .sub) rfl rfl rfl ?_ | refine zay rfl rfl (by omega) (by assumption) rfl ?_)
  rw [w1]
  refine zax rfl rfl rfl (fun h2 => ?_) fun h2 => ?_
  ·have h2 : (gI back w == gI back v - 1) = true := h2
   rw [h2]
   repeat (first | refine za6 ?_ | refine za4 ?_ | refine zb2 ?_ | refine za5 rfl ?_ | refine zbb rfl rfl ?_)
   exact zau ⟨.inr rfl, _, rfl, rfl⟩
  ·have h2 : (gI back w == gI back v - 1) = false := h2
   rw [h2]
   repeat (first | refine za6 ?_ | refine za4 ?_ | refine zb2 ?_ | refine za5 rfl ?_ | refine zbb rfl rfl ?_)
   exact zau ⟨.inr rfl, _, rfl, rfl⟩
 ·have h1 : decide (gI back w ≥ 0) = false := h1
  rw [h1]
  repeat (first | refine za6 ?_ | refine za4 ?_ | refine zb2 ?_ | refine o_gn rfl rfl ?_ | refine za5 rfl ?_ | refine zba rfl rfl ?_)
  exact zau ⟨.inr rfl, _, rfl, rfl⟩
def b66_0 : IC := .seq (.region [⟨(some 9), .bin .lss (.t 8) (.t 7), none⟩] none)
 (.seq (.cond (.t 9) (.skip)
 (.exit 0))
 (.seq (.block 1 (.seq (.region [⟨(some 10), .mov (.t 8), none⟩,
  ⟨(some 5), .mov (.t 10), none⟩] none)
 (.seq (.region [⟨(some 11), .mov (.t 1), none⟩,
  ⟨(some 12), .mov (.t 0), none⟩,
  ⟨(some 13), .mov (.t 5), none⟩,
  ⟨(some 14), .idxs 1 (.t 12) (.t 13), none⟩,
  ⟨(some 15), .load none (.t 14), none⟩,
  ⟨(some 16), .call (.t 11) [(.t 15)], none⟩] none)
 (.cond (.t 16) (.seq (.region [⟨(some 17), .mov (.t 5), none⟩,
  ⟨(some 4), .mov (.t 17), none⟩] none)
 (.ret))
 (.skip)))))
 (.region [⟨(some 18), .bin .add (.t 8) (.c (.int .i64 1)), none⟩,
  ⟨(some 8), .mov (.t 18), none⟩] none)))
-- slices.IndexFunc[[]int,int]
def ic66 : IC := .seq (.region [⟨(some 4), .mov (.c (.int .i64 0)), none⟩] none)
 (.seq (.seq (.region [⟨(some 6), .mov (.t 0), none⟩,
  ⟨(some 7), .len false (.t 6), none⟩,
  ⟨(some 8), .mov (.c (.int .i64 0)), none⟩] none)
 (.block 0 (.loop b66_0)))
 (.seq (.region [⟨(some 4), .mov (.c (.int .i64 (-1))), none⟩] none)
 (.ret)))
theorem fn66 : env0.fn 66 = some ⟨19, ic66, [.t 4]⟩ := by kernel_rfl
theorem zjs {l : List Nat} {i : Nat} (h : i < l.length) : (l.map fun w => ([.int .i64 (w : Nat)] : List AV))[((i : Nat) : Int).toNat]? = some [.int .i64 (l[i] : Nat)] := by
 rw [Int.toNat_natCast, List.getElem?_map, List.getElem?_eq_getElem h]
 rfl
set_option maxHeartbeats 1000000 in
theorem index66 (back : List Int) (l : List Nat) (v : Nat) (hl : l.length ≤ 1000000) (hin : ∀ w ∈ l, w < back.length) (hv : v < back.length) (lo : -1 ≤ gI back v) (hi : gI back v ≤ 1000000) (k : Nat) (hk : k < l.length) (hp : prB back v l[k] = true) (hn : ∀ i (h2 : i < k), prB back v (l[i]'(Nat.lt_trans h2 hk)) = false) :
  PF Try.prog 66 [vN l, .fn 67 [] [.vptr [vsI back], .vptr [.int .i64 (v : Nat)]]] (.int .i64 (k : Nat)) := by
 have hvl : (l.map fun w => ([.int .i64 (w : Nat)] : List AV)).length = l.length := List.length_map ..
 refine zbg env0_ok fn66 [(0, vN l), (1, .fn 67 [] [.vptr [vsI back], .vptr [.int .i64 (v : Nat)]])] (by show 2 ≤ 19; decide) rfl fun w0 N0 => ?_
 unfold ic66
 repeat (first | refine za7 ?_ | refine za0 rfl ?_ | refine za6 ?_ | refine za4 ?_ | refine zac ?_ | refine za5 rfl ?_ | refine zc4 rfl rfl ?_)
 refine zc1 (fun mm S => ∃ i, mm = l.length - i ∧ i ≤ k ∧ S = st 19 [(0, vN l), (1, .fn 67 [] [.vptr [vsI back], .vptr [.int .i64 (v : Nat)]]), (7, .int .i64 (l.length : Nat)), (8, .int .i64 (i : Nat))] [] 0 0) l.length
  (zaa (.cons rfl (.cons rfl (.cons (by rw [← hvl]; rfl) (.cons rfl .nil))))) ⟨0, rfl, Nat.zero_le _, rfl⟩ ?_
 rintro mm S ⟨i, rfl, hi2, rfl⟩
 have hlt : i < l.length := by omega
 have hg := zjs hlt
 have p67 := pred67 back l[i] v (hin _ (List.getElem_mem hlt)) hv lo hi
 have w1 : IntKind.wrap .i64 (((i : Nat) : Int) + 1) = ((i + 1 : Nat) : Int) := zap i (by omega)
 unfold b66_0
 repeat (first | refine za7 ?_ | refine za0 rfl ?_)
 refine zax rfl rfl rfl (fun h3 => ?_) fun h3 => ?_
 ·repeat (first | refine za7 ?_ | refine za0 rfl ?_ | refine za6 ?_ | refine za4 ?_ | refine zac ?_ | refine zal ?_ | refine zd2 rfl ?_ | refine za5 rfl ?_ | refine zad rfl rfl ?_ | refine zay rfl rfl (by omega) (by assumption) rfl ?_)
  refine o_callv rfl rfl rfl p67 (fun h => Bool.noConfusion (show false = true from h)) ?_
  by_cases hik : i = k
  ·subst hik
   rw [hp]
   repeat (first | refine za7 ?_ | refine za0 rfl ?_ | refine za6 ?_ | refine za4 ?_ | refine zd2 rfl ?_ | refine zb2 ?_ | refine zan ?_ | refine zbz ?_ | refine za5 rfl ?_)
   exact zau ⟨.inr rfl, _, rfl, rfl⟩
  ·rw [hn i (by omega)]
   repeat (first | refine za0 rfl ?_ | refine za6 ?_ | refine za4 ?_ | refine zc5 ?_ | refine zal ?_ | refine zd5 rfl ?_ | refine za5 rfl ?_ | refine zbp (op := .add) rfl rfl rfl ?_)
   rw [w1]
   exact zar (show l.length - (i + 1) < l.length - i by omega) (zaa (.cons rfl (.cons rfl (.cons rfl (.cons rfl .nil))))) ⟨i + 1, rfl, by omega, rfl⟩
 ·have h4 : ¬ ((i : Nat) : Int) < ((l.length : Nat) : Int) := of_decide_eq_false h3
  omega
end Go.Proofs.Ytoagikifehmlpaa
namespace Go.Proofs.Ytoagikifehmlpaa
open Go Go.Am
inductive Wq (hp : List (Nat × Nat × AObj)) (nx : Nat) (q : List Int) : AV → Prop
 | lit {id sp : Nat} (a : Int) (hq : q = [a]) (hl : Am.look id hp = some (sp, .cells [.int .i64 a])) (hn : id < nx) : Wq hp nx q (.ms id sp 1 0 1 (some 1))
 | gen {id sp len : Nat} (hlen : len = q.length) (hl : Am.look id hp = some (sp, .cells (q.map (AV.int .i64)))) (hn : id < nx) : Wq hp nx q (.ms id sp 1 0 len none)
theorem Wq.fresh {nx : Nat} {hp : List (Nat × Nat × AObj)} {q : List Int} {qv : AV} (h : Wq hp nx q qv) (ck : Nat) (x : AObj) : Wq ((nx, ck, x) :: hp) (nx + 1) q qv := by
 cases h with
 | lit a hq hl hn => exact .lit a hq (by rw [za9, if_neg (by omega)]; exact hl) (by omega)
 | gen hlen hl hn => exact .gen hlen (by rw [za9, if_neg (by omega)]; exact hl) (by omega)
theorem Wq.view {nx d : Nat} {S : AS} {q : List Int} {qv : AV} (h : Wq S.heap nx q qv) : S.view (d + 1) qv = vsI q := by
 cases h with
 | lit a hq hl hn => subst hq; exact zd0 [a] rfl hl
 | gen hlen hl hn => subst hlen; exact zd0 q rfl hl
def dnx (P : Nat → Bool) (m i : Nat) : Int := match ((List.range m).drop i).find? P with
 | some u => (u : Nat)
 | none => -1
theorem dnx_step {P : Nat → Bool} {m i : Nat} (h : i < m) : dnx P m i = if P i = true then ((i : Nat) : Int) else dnx P m (i + 1) := by
 unfold dnx
 rw [List.drop_eq_getElem_cons (by rw [List.length_range]; exact h), List.getElem_range, List.find?_cons]
 cases P i <;> rfl
theorem dnx_end (P : Nat → Bool) (m : Nat) : dnx P m m = -1 := by
 unfold dnx
 rw [List.drop_of_length_le (by rw [List.length_range]; exact Nat.le_refl _)]
 rfl
end Go.Proofs.Ytoagikifehmlpaa
namespace Go.Proofs.Ytoagikifehmlpaa
open Go Go.Am
def Gv (b : Nat) (q : List Int) (w : AV) (hp : List (Nat × Nat × AObj)) (nx : Nat) : Prop :=
 (q = [] ∧ w = .nils) ∨ ∃ id sp, w = .ms id sp 1 0 q.length none ∧ Am.look id hp = some (sp, .cells (q.map (AV.int .i64))) ∧ b < id ∧ id < nx
section
variable {b nx : Nat} {q : List Int} {w : AV} {hp : List (Nat × Nat × AObj)}
theorem Gv.fresh (h : Gv b q w hp nx) (ck : Nat) (x : AObj) : Gv b q w ((nx, ck, x) :: hp) (nx + 1) := by
 rcases h with h | ⟨id, sp, e, hl, h1, h2⟩
 ·exact .inl h
 ·exact .inr ⟨id, sp, e, by rw [za9, if_neg (by omega)]; exact hl, h1, by omega⟩
theorem Gv.put (h : Gv b q w hp nx) {i : Nat} (hi : i ≤ b) (x : Nat × AObj) : Gv b q w (zbc i x hp) nx := by
 rcases h with h | ⟨id, sp, e, hl, h1, h2⟩
 ·exact .inl h
 ·exact .inr ⟨id, sp, e, by rw [za2, if_neg (by omega)]; exact hl, h1, h2⟩
theorem Gv.view {S : AS} {d : Nat} (h : Gv b q w S.heap nx) : S.view (d + 1) w = vsI q := by
 rcases h with ⟨rfl, rfl⟩ | ⟨id, sp, rfl, hl, _, _⟩
 ·rfl
 ·exact zd0 q rfl hl
theorem o_gapp {w0 : World} {N0 n d ck : Nat} {md : Md} {k : List Fr} {Q : Exit → AS → Prop} {l : List (Nat × AV)} {ios : List Opr} {bytes j sj : Nat} {x0 : Int} {z : List AV} {s x : Arg} (hF : Gv b q w hp nx) (hbn : b < nx) (hlen : q.length ≤ 1000000) (hs : zas s l = some w) (hx : zas x l = some (.ms j sj 1 0 1 (some 1))) (hj : Am.look j hp = some (sj, .cells [.int .i64 x0])) (hb : bytes ≤ 16777216)
  (go : ∀ w' hp' nx' ck', Gv b (q ++ [x0]) w' hp' nx' → b < nx' → (∀ i, i ≤ b → Am.look i hp' = Am.look i hp) → Om Try.prog w0 N0 md (KnP Try.prog w0 N0) ios (st n ((d, w') :: l) hp' nx' ck') k Q) :
  Om Try.prog w0 N0 md (KnP Try.prog w0 N0) (⟨some d, .append 1 bytes z s x, none⟩ :: ios) (st n l hp nx ck) k Q := by
 have hel : ∀ l, (st n l hp nx ck []).elems 1 (.ms j sj 1 0 1 (some 1)) = some [[.int .i64 x0]] := fun l => zdk (xs := [[.int .i64 x0]]) (ys := []) hj rfl fun x hx => by obtain rfl := List.mem_singleton.1 hx; rfl
 rcases hF with ⟨rfl, rfl⟩ | ⟨id, sp, rfl, hl, h1, h2⟩
 ·have hi : iop (st n l hp nx ck) (.append 1 bytes z s x) = some (.ms nx ck 1 0 1 none, st n l ((nx, ck, .cells [.int .i64 x0]) :: hp) (nx + 1) (ck + 1)) := by
   simp only [iop, zao, hs, hx, hel]
   unfold zb0
   rw [if_neg (show ¬ [[AV.int .i64 x0]].length = 0 from Nat.succ_ne_zero 0), if_pos (show [[AV.int .i64 x0]].flatten.all AV.isCell = true ∧ bytes ≤ 16777216 from ⟨rfl, hb⟩)]
   rfl
  exact ze2 hi (go _ _ _ _ (.inr ⟨nx, ck, rfl, zaz, hbn, Nat.lt_succ_self _⟩) (by omega) fun i hi => by rw [za9, if_neg (by omega)]) (fun _ _ _ _ _ _ _ => rfl)
 ·refine zea [[.int .i64 x0]] hs hx (hel _) (fun h => Nat.noConfusion h) rfl hb hl (by rw [List.length_map, Nat.mul_one]) (by show _ + 1 ≤ _; omega) ?_ (fun _ _ _ _ _ _ _ => rfl)
  refine go _ _ _ _ (.inr ⟨id, ck, by rw [List.length_append]; rfl, by rw [za2, if_pos rfl, List.map_append]; rfl, h1, h2⟩) hbn fun i hi => by rw [za2, if_neg (by omega)]
end
-- slices.Index[[]int,int]
end Go.Proofs.Ytoagikifehmlpaa
