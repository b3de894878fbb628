/-
  A QUEUE: a list of its own that is cut at its begin and grows at its end; steps on it.; THE DISTANCES FROM A VERTEX: far walked.; THE REFERENCE's CHECKS OF GRAPHS; small graphs.; THE LIBRARY's CONTRACTS of sort.Ints and slices.Compact, laid at this program; the same as told calls.; THE NEIGHBOURS OF ALL VERTICES: joined walked.; sort.Ints and slices.Compact of no list.; THE NEIGHBOURS OF ALL VERTI
-/
import Derived.Test.YtfbeableaihooaaVX1
import Derived.Shelf.Sort.Plain
import Derived.Shelf.Slices.CompactI
namespace Go.Proofs.Ytfbeableaihooaa
open Go Go.Am
def iN (q : List Nat) : List AV := q.map fun w => AV.int .i64 (w : Nat)
theorem iN_len (q : List Nat) : (iN q).length = q.length := y07 ..
inductive QV (hp : List (Nat × Nat × AObj)) (nx : Nat) (q : List Nat) : AV → Prop
 | lit {id sp : Nat} (a : Nat) (hq : q = [a]) (hl : Am.look id hp = some (sp, .cells (iN [a]))) (h1 : id ≠ 1) (hn : id < nx) : QV hp nx q (.ms id sp 1 0 1 (some 1))
 | gen {id sp off : Nat} {cs : List AV} (hl : Am.look id hp = some (sp, .cells cs)) (hd : cs.drop off = iN q) (h1 : id ≠ 1) (hn : id < nx) : QV hp nx q (.ms id sp 1 off q.length none)
 | nil {id sp off : Nat} (hq : q = []) : QV hp nx q (.ms id sp 1 off 0 (some 0))
structure Fq (o : List Int) (q : List Nat) (qv : AV) (hp : List (Nat × Nat × AObj)) (nx : Nat) : Prop where
 out : Am.look 1 hp = some (2, .cells (o.map (AV.int .i64)))
 nx1 : 1 < nx
 qu : QV hp nx q qv
section
variable {w0 : World} {N0 n d nx ck : Nat} {k : List Fr} {Q : Exit → AS → Prop} {o : List Int} {q : List Nat} {qv : AV} {hp : List (Nat × Nat × AObj)} {l : List (Nat × AV)} {ios : List Opr}
theorem Fq.fresh (h : Fq o q qv hp nx) (ck : Nat) (x : AObj) : Fq o q qv ((nx, ck, x) :: hp) (nx + 1) := by
 have h1 := h.nx1
 refine ⟨by rw [za8, if_neg (by omega)]; exact h.out, by omega, ?_⟩
 cases h.qu with
 | lit a hq hl h1 hn => exact .lit a hq (by rw [za8, if_neg (by omega)]; exact hl) h1 (by omega)
 | gen hl hd h1 hn => exact .gen (by rw [za8, if_neg (by omega)]; exact hl) hd h1 (by omega)
 | nil hq => exact .nil hq
theorem Fq.set (h : Fq o q qv hp nx) (v : Nat) (x : Int) : Fq (o.set v x) q qv (zaz 1 (2, .cells ((o.map (AV.int .i64)).set v (.int .i64 x))) hp) nx := by
 refine ⟨by rw [za1, if_pos rfl, ← List.map_set], h.nx1, ?_⟩
 cases h.qu with
 | lit a hq hl h1 hn => exact .lit a hq (by rw [za1, if_neg (fun e => h1 e.symm)]; exact hl) h1 hn
 | gen hl hd h1 hn => exact .gen (by rw [za1, if_neg (fun e => h1 e.symm)]; exact hl) hd h1 hn
 | nil hq => exact .nil hq
theorem o_qlen {x : Arg} (hF : Fq o q qv hp nx) (hx : zaw x l = some qv) (go : Om Try.prog w0 N0 none (KnP Try.prog w0 N0) ios (st n ((d, .int .i64 (q.length : Nat)) :: l) hp nx ck) k Q) : Om Try.prog w0 N0 none (KnP Try.prog w0 N0) (⟨some d, .len false x, none⟩ :: ios) (st n l hp nx ck) k Q := by
 cases hF.qu with
 | lit a hq hl h1 hn => subst hq; exact zbo hx rfl go
 | gen hl hd h1 hn => exact zbo hx rfl go
 | nil hq => subst hq; exact zbo hx rfl go
theorem zvz {d2 a : Nat} {qs : List Nat} {x : Arg} (hF : Fq o (a :: qs) qv hp nx) (hx : zaw x l = some qv) (go : ∀ p, Om Try.prog w0 N0 none (KnP Try.prog w0 N0) ios (st n ((d2, .int .i64 (a : Nat)) :: (d, p) :: l) hp nx ck) k Q) :
  Om Try.prog w0 N0 none (KnP Try.prog w0 N0) (⟨some d, .idxs 1 x (.c (.int .i64 0)), none⟩ :: ⟨some d2, .load none (.t d), none⟩ :: ios) (st n l hp nx ck) k Q := by
 have ht : ∀ p : AV, zaw (.t d) ((d, p) :: l) = some p := fun p => by
  show zbw d ((d, p) :: l) = some p
  rw [zbw, y25]
 cases hF.qu with
 | @lit id sp a2 hq hl h1 hn =>
  injection hq with hq _
  subst hq
  refine zbe hx rfl (y2m 0) (by decide) ?_
  exact zas (id := id) (sp := sp) (off := 0) (ht _) hl hn rfl (go _)
 | @gen id sp off cs hl hd h1 hn =>
  refine zbe hx rfl (y2m 0) (by rw [y0l]; omega) ?_
  refine zas (id := id) (sp := sp) (off := off + 0 * 1) (ht _) hl hn ?_ (go _)
  have := congrArg (fun l => l[0]?) hd
  simp only [y1c] at this
  rw [show off + 0 * 1 = off + 0 by omega, this]
  rfl
 | nil hq => cases hq
theorem o_qapp {bytes j sj v : Nat} {z : List AV} {s x : Arg} (hF : Fq o q qv hp nx) (hne : q ≠ []) (hlen : q.length ≤ 1000000) (hs : zaw s l = some qv) (hx : zaw x l = some (.ms j sj 1 0 1 (some 1))) (hj : Am.look j hp = some (sj, .cells [.int .i64 (v : Nat)])) (hb : bytes ≤ 16777216)
  (go : ∀ qv' hp' nx' ck', Fq o (q ++ [v]) qv' hp' nx' → Om Try.prog w0 N0 none (KnP Try.prog w0 N0) ios (st n ((d, qv') :: l) hp' nx' ck') k Q) :
  Om Try.prog w0 N0 none (KnP Try.prog w0 N0) (⟨some d, .append 1 bytes z s x, none⟩ :: ios) (st n l hp nx ck) k Q := by
 have hel : (st n l hp nx ck []).elems 1 (.ms j sj 1 0 1 (some 1)) = some [[.int .i64 (v : Nat)]] := zcr (xs := [[.int .i64 (v : Nat)]]) (ys := []) hj rfl fun x hx => by obtain rfl := y0e.1 hx; rfl
 have hn1 := hF.nx1
 cases hF.qu with
 | @lit id sp a hq hl h1 hn =>
  subst hq
  have hi : iop (st n l hp nx ck) (.append 1 bytes z s x) = some (.ms nx ck 1 0 2 none, st n l ((nx, ck, .cells (iN [a, v])) :: hp) (nx + 1) (ck + 1)) := by
   simp only [iop, zal, hs, hx, hel]
   unfold zbi
   rw [if_neg (show ¬ [[AV.int .i64 (v : Nat)]].length = 0 from y2x 0), if_pos (show [[AV.int .i64 (v : Nat)]].flatten.all AV.isCell = true ∧ bytes ≤ 16777216 from ⟨rfl, hb⟩)]
   simp only [show (st n l hp nx ck []).heap = hp from rfl, hl]
   rw [if_pos (show True ∧ True ∧ 0 + 1 * 1 ≤ (iN [a]).length ∧ 1 + [[AV.int .i64 (v : Nat)]].length ≤ 1048576 from ⟨trivial, trivial, y0b 1, (by show 2 ≤ 1048576; decide)⟩), if_neg (show ¬ 1 + [[AV.int .i64 (v : Nat)]].length ≤ 1 from (by show ¬ 2 ≤ 1; decide))]
   rfl
  refine zdl hi (go _ _ _ _ ⟨by rw [za8, if_neg (by omega)]; exact hF.out, by omega, ?_⟩) (fun _ _ _ _ _ _ _ => rfl)
  exact .gen (q := [a, v]) (off := 0) zaq rfl (by omega) (by omega)
 | @gen id sp off cs hl hd h1 hn =>
  have e1 : cs.length - off = q.length := by rw [← List.length_drop, hd, iN_len]
  have e2 := List.length_pos_iff.2 hne
  refine znk [[.int .i64 (v : Nat)]] hs hx hel (y2x 0) rfl hb hl (by omega) (by show q.length + 1 ≤ 1048576; omega) ?_ (fun _ _ _ _ _ _ _ => rfl)
  refine go _ _ _ _ ⟨by rw [za1, if_neg h1]; exact hF.out, hn1, ?_⟩
  have e3 : (cs.drop off).take (q.length * 1) ++ [[AV.int .i64 (v : Nat)]].flatten = iN (q ++ [v]) := by
   rw [hd, List.take_of_length_le (by rw [iN_len]; omega)]
   unfold iN
   rw [y16]
   rfl
  rw [e3]
  have := QV.gen (hp := zaz id (ck, .cells (iN (q ++ [v]))) hp) (nx := nx) (q := q ++ [v]) (id := id) (sp := ck) (off := 0) (cs := iN (q ++ [v])) (by rw [za1, if_pos rfl]) rfl h1 hn
  rw [y0k] at this
  exact this
 | nil hq => exact absurd hq hne
theorem o_qcut {a : Nat} {qs : List Nat} {x : Arg} (hF : Fq o (a :: qs) qv hp nx) (hx : zaw x l = some qv) (go : ∀ qv', Fq o qs qv' hp nx → Om Try.prog w0 N0 none (KnP Try.prog w0 N0) ios (st n ((d, qv') :: l) hp nx ck) k Q) :
  Om Try.prog w0 N0 none (KnP Try.prog w0 N0) (⟨some d, .slsl 1 x (some (.c (.int .i64 1))) none none, none⟩ :: ios) (st n l hp nx ck) k Q := by
 cases hF.qu with
 | @lit id sp a2 hq hl h1 hn =>
  injection hq with _ hq
  refine o_slsl (lv := some (.int .i64 1)) (hv := none) (lo := 1) (hh := ((1 : Nat) : Int)) hx rfl rfl rfl rfl (by decide) (by decide) (by decide) (go _ ⟨hF.out, hF.nx1, .nil hq⟩)
 | @gen id sp off cs hl hd h1 hn =>
  refine o_slsl (lv := some (.int .i64 1)) (hv := none) (lo := 1) (hh := (((a :: qs).length : Nat) : Int)) hx rfl rfl rfl rfl (by decide) (by rw [y0l]; omega) (y2m _) (go _ ⟨hF.out, hF.nx1, ?_⟩)
  have := QV.gen (hp := hp) (nx := nx) (q := qs) (id := id) (sp := sp) (off := off + 1) (cs := cs) hl (by rw [← List.drop_drop, hd]; rfl) h1 hn
  exact this
 | nil hq => cases hq
end
def b34_2 : IC := .seq (.region [oM 31 (.bin .lss (.t 30) (.t 29))] none)
 (.seq (.cond (.t 31) (.skip)
 (.exit 2))
 (.seq (.block 3 (.seq (.region [oM 32 (.idxs 1 (.t 28) (.t 30)),
  oN 33 32,
  oT 8 33] none)
 (.seq (.region [oT 34 5,
  oT 35 8,
  oM 36 (.idxs 1 (.t 34) (.t 35)),
  oN 37 36,
  oM 38 (.bin .lss (.t 37) (.c (.int .i64 0)))] none)
 (.cond (.t 38) (.seq (.region [oT 39 5,
  oT 40 8,
  oT 41 5,
  oT 42 6,
  oM 43 (.idxs 1 (.t 42) (.c (.int .i64 0))),
  oN 44 43,
  oM 45 (.idxs 1 (.t 41) (.t 44)),
  oN 46 45,
  oM 47 (.bin .add (.t 46) (.c (.int .i64 1))),
  oM 48 (.idxs 1 (.t 39) (.t 40)),
  ⟨none, .store 1 (.t 48) (.t 47), none⟩] none)
 (.region [oT 49 6,
  oT 50 8,
  oM 51 (.bslice 1 1 [.int .i64 0] [(0, 1, (.t 50))]),
  oM 52 (.append 1 8 [.int .i64 0] (.t 49) (.t 51)),
  oT 6 52] none))
 (.skip)))))
 (.region [oM 53 (.bin .add (.t 30) (.c (.int .i64 1))),
  oT 30 53] none)))
def b34_0 : IC := .seq (.seq (.region [oT 18 6,
  oM 19 (.len false (.t 18)),
  oM 20 (.bin .gtr (.t 19) (.c (.int .i64 0)))] none)
 (.cond (.t 20) (.skip)
 (.exit 0)))
 (.seq (.block 1 (.seq (.region [oT 23 0,
  oT 24 6,
  oM 25 (.idxs 1 (.t 24) (.c (.int .i64 0))),
  oN 26 25,
  oM 27 (.idxs 1 (.t 23) (.t 26)),
  oN 28 27,
  oM 29 (.len false (.t 28)),
  oM 30 (.mov (.c (.int .i64 0)))] none)
 (.block 2 (.loop b34_2))))
 (.region [oT 21 6,
  oM 22 (.slsl 1 (.t 21) (some (.c (.int .i64 1))) none none),
  oT 6 22] none))
-- (pneumatic/digraph.net).far
def ic34 : IC := .seq (.region [oM 4 (.mov (.c (.nils)))] none)
 (.seq (.region [oM 9 (.bslice 1 1 [.int .i64 0] [(0, 1, (.c (.int .i64 (-1))))]),
  oT 10 0,
  oM 11 (.len false (.t 10)),
  oM 12 (.call (.c (.fn 58 [] [])) [(.t 9), (.t 11)]),
  oT 5 12] none)
 (.seq (.region [oT 13 5,
  oT 14 1,
  oM 15 (.idxs 1 (.t 13) (.t 14)),
  ⟨none, .store 1 (.t 15) (.c (.int .i64 0)), none⟩] none)
 (.seq (.seq (.region [oT 16 1,
  oM 17 (.bslice 1 1 [.int .i64 0] [(0, 1, (.t 16))]),
  oT 6 17] none)
 (.block 0 (.loop b34_0)))
 (.seq (.region [oT 54 5,
  oT 4 54] none)
 (.ret)))))
theorem fn34 : env0.fn 34 = some ⟨55, ic34, [.t 4]⟩ := by kernel_rfl
theorem zqc {o : List Int} {v : Nat} (h : v < o.length) : (o.map (AV.int .i64))[v]? = some (.int .i64 (gI o v)) := by
 unfold gI
 rw [y0f, y0c, y06 h]
 rfl
theorem zdz : ∀ l : List Int, flat.flatL (l.map (AV.int .i64)) = true
 | [] => rfl
 | z :: l => by
  rw [y1p]
  show (flat (AV.int .i64 z) && flat.flatL (l.map (AV.int .i64))) = true
  rw [zdz l]
  rfl
theorem unl_le (o : List Int) : unl o ≤ o.length := y1h ..
def t48 (E : List (Nat × Nat)) (m : Nat) (qv : AV) (l : List Nat) (i : Nat) : List (Nat × AV) := [(0, cN E m), (5, .ms 1 2 1 0 m (some m)), (6, qv), (28, vN l), (29, .int .i64 ((l.map fun w => ([.int .i64 (w : Nat)] : List AV)).length : Nat)), (30, .int .i64 (i : Nat))]
set_option maxHeartbeats 4000000 in
theorem far48 (m : Nat) (hm : m ≤ 12) (E : List (Nat × Nat)) (hb : ∀ u v, (u, v) ∈ E → u < m ∧ v < m) (f : Nat) (hf : f < m) : PF Try.prog 34 [cN E m, .int .i64 (f : Nat)] (vsI (zgn E m f m)) := by
 have ez : ∀ o : Nat, 0 + ((o : Nat) : Int).toNat * 1 = o := fun o => by simp
 have hlen : ((List.range m).map fun v => ([vN (nbr E m v)] : List AV)).length = m := by rw [y07, y0v]
 have hb2 := fun u v h => (hb u v h).2
 refine zb0 env0_ok fn34 [(0, cN E m), (1, .int .i64 (f : Nat))] (by show 2 ≤ 55; decide) rfl fun w0 N0 => ?_
 unfold ic34
 refine zbm [] [] [(0, cN E m), (1, .int .i64 (f : Nat))] rfl .nil .nil (.cons rfl (.same rfl) (.cons rfl (.same rfl) .nil)) ?_
 repeat (first | refine za7 ?_ | refine za0 rfl ?_ | refine za5 ?_ | refine za4 ?_ | refine za3 rfl ?_ | refine zbo rfl rfl ?_ | refine zb6 rfl rfl ?_)
 rw [hlen]
 refine o_own rfl rfl (zqx hm) (zdz _) ?_
 repeat (first | refine za7 ?_ | refine za0 rfl ?_ | refine za5 ?_ | refine za4 ?_ | refine za3 rfl ?_ | refine zbe rfl rfl (by omega) (by omega) ?_)
 rw [ez]
 refine zce (id := 1) (sp := 2) (off := f) rfl rfl rfl rfl (by simp; exact hf) rfl ?_
 repeat (first | refine za7 ?_ | refine za0 rfl ?_ | refine za5 ?_ | refine za4 ?_ | refine zab ?_ | refine za3 rfl ?_ | refine zb6 rfl rfl ?_)
 have hF0 : Fq ((List.replicate m (-1 : Int)).set f 0) [f] (.ms 2 3 1 0 1 (some 1)) ((2, 3, .cells [.int .i64 (f : Nat)]) :: zaz 1 (2, .cells (((List.replicate m (-1 : Int)).map (AV.int .i64)).set f (.int .i64 0))) [(1, 2, .cells ((List.replicate m (-1 : Int)).map (AV.int .i64))), (0, 1, .cells [.int .i64 (-1)])]) 3 :=
  ⟨by rw [za8, if_neg (by decide), za1, if_pos rfl, ← List.map_set], by decide, .lit f rfl zaq (by decide) (by decide)⟩
 have hu0 := unl_le ((List.replicate m (-1 : Int)).set f 0)
 rw [y18, y15] at hu0
 refine zbv (fun mm S => ∃ o q qv hp nx ck, mm = 2 * unl o + q.length ∧ mm ≤ 100 ∧ Bfs E m f o q ∧ Fq o q qv hp nx ∧ S = st 55 [(0, cN E m), (5, .ms 1 2 1 0 m (some m)), (6, qv)] hp nx ck) (2 * unl ((List.replicate m (-1 : Int)).set f 0) + 1)
  (zaa (.cons rfl (.cons rfl (.cons rfl .nil)))) ⟨_, _, _, _, _, _, rfl, by omega, Bfs.start E hf, hF0, rfl⟩ ?_
 rintro mm S ⟨o, q, qv, hp, nx, ck, rfl, hmm, hB, hF, rfl⟩
 unfold b34_0
 repeat (first | refine za7 ?_ | refine za0 rfl ?_ | refine za3 rfl ?_)
 refine o_qlen hF rfl ?_
 refine zax rfl rfl rfl (fun h3 => ?_) fun h3 => ?_
 ·obtain ⟨a, qs, rfl⟩ : ∃ a qs, q = a :: qs := by
   cases q with
   | nil => exact absurd (of_decide_eq_true h3) (by decide)
   | cons a qs => exact ⟨a, qs, rfl⟩
  have ha0 := hB.inq a (y05 ..)
  have ham : a < m := hB.len ▸ gI_lt ha0
  have halt := zvm hB.len hB.down a
  have hga : ((List.range m).map fun v => ([vN (nbr E m v)] : List AV))[((a : Nat) : Int).toNat]? = some [vN (nbr E m a)] := by
   rw [y11, y0f, y2j ham]
   rfl
  have hmem : ∀ v, v ∈ nbr E m a ↔ (a, v) ∈ E := fun v => zcy hb2
  have hmN : ∀ v ∈ nbr E m a, v < m := fun v hv => hb2 _ _ ((hmem v).1 hv)
  obtain ⟨o9, new9, e9, hB9, hm9, _⟩ := hB.step hmem hmN
  have hvf := fun i => zrh (d := gI o a + 1) (by omega) o qs ((nbr E m a).take i) fun v hv => by rw [hB.len]; exact hmN v (y2n hv)
  have hbig : (nbr E m a).length ≤ m := by
   unfold nbr
   refine y0s (y1h ..) ?_
   rw [y0v]
   exact y0b _
  generalize nbr E m a = l at *
  repeat (first | refine za7 ?_ | refine za0 rfl ?_ | refine za5 ?_ | refine za4 ?_ | refine zab ?_ | refine zaf ?_ | refine zc8 rfl ?_ | refine za3 rfl ?_)
  refine zvz hF rfl fun p => ?_
  repeat (first | refine za5 ?_ | refine za4 ?_ | refine zab ?_ | refine za3 rfl ?_ | refine zad rfl rfl ?_ | refine zbo rfl rfl ?_ | refine zb7 rfl rfl (by omega) (by assumption) rfl ?_)
  refine zbv (fun mm S => ∃ i o' new qv hp nx ck, mm = l.length - i ∧ i ≤ l.length ∧ (l.take i).foldl (vis (gI o a + 1)) (o, qs) = (o', qs ++ new) ∧ Fq o' (a :: (qs ++ new)) qv hp nx ∧ S = st 55 (t48 E m qv l i) hp nx ck) l.length
   (zaa (.cons rfl (.cons rfl (.cons rfl (.cons rfl (.cons rfl (.cons rfl .nil))))))) ⟨0, o, [], _, _, _, _, rfl, y12 _, by rw [y0r]; rfl, by rw [y0r]; exact hF, rfl⟩ ?_
  rintro mm S ⟨i, o', new, qv, hp, nx, ck, rfl, hi, hfo, hF, rfl⟩
  unfold b34_2 t48
  repeat (first | refine za7 ?_ | refine za0 rfl ?_)
  obtain ⟨o2, new2, e2, hx⟩ := hvf i
  obtain ⟨rfl, hnn⟩ : o' = o2 ∧ qs ++ new = qs ++ new2 := by rw [hfo] at e2; exact ⟨congrArg Prod.fst e2, congrArg Prod.snd e2⟩
  obtain rfl := List.append_cancel_left hnn
  have hol : o'.length = m := hx.len.trans hB.len
  have hcnt := hx.cnt
  rw [y0l] at hmm
  refine zax rfl rfl rfl (fun h4 => ?_) fun h4 => ?_
  ·have hlt : i < l.length := by
    have h5 : ((i : Nat) : Int) < (((l.map fun w => ([.int .i64 (w : Nat)] : List AV)).length : Nat) : Int) := of_decide_eq_true h4
    rw [y07] at h5
    exact y1i.1 h5
   have w1 : IntKind.wrap .i64 (((i : Nat) : Int) + 1) = ((i + 1 : Nat) : Int) := zam i (by omega)
   have hgv : (l.map fun w => ([.int .i64 (w : Nat)] : List AV))[((i : Nat) : Int).toNat]? = some [.int .i64 (l[i] : Nat)] := by
    rw [y11, y0f, y06 hlt]
    rfl
   have hvm := hmN l[i] (y0y hlt)
   have hfs : (l.take (i + 1)).foldl (vis (gI o a + 1)) (o, qs) = vis (gI o a + 1) (o', qs ++ new) l[i] := by
    rw [y1x, y06 hlt]
    show (l.take i ++ [l[i]]).foldl _ _ = _
    rw [y1t, hfo]
    rfl
   generalize l[i] = v at *
   have hva : gI o' a = gI o a := hx.old a ha0
   repeat (first | refine za7 ?_ | refine za0 rfl ?_ | refine za5 ?_ | refine za4 ?_ | refine zab ?_ | refine zaf ?_ | refine zc8 rfl ?_ | refine za3 rfl ?_ | refine zad rfl rfl ?_ | refine zb7 rfl rfl (by omega) (by assumption) rfl ?_ | refine zbe rfl rfl (by omega) (by omega) ?_)
   rw [ez]
   refine zas (id := 1) (sp := 2) (off := v) rfl hF.out hF.nx1 (zqc (by omega)) ?_
   refine zax rfl rfl rfl (fun h5 => ?_) fun h5 => ?_
   ·have h5 : gI o' v < 0 := of_decide_eq_true h5
    have w2 : IntKind.wrap .i64 (gI o a + 1) = gI o a + 1 := zhj _ (by omega) (by omega)
    have hv1 : vis (gI o a + 1) (o', qs ++ new) v = (o'.set v (gI o a + 1), qs ++ new ++ [v]) := if_pos h5
    rw [hv1] at hfs
    repeat (first | refine za7 ?_ | refine za0 rfl ?_ | refine za5 ?_ | refine za4 ?_ | refine zc8 rfl ?_ | refine za3 rfl ?_)
    refine zvz hF rfl fun p => ?_
    repeat (first | refine zbe rfl rfl (by omega) (by omega) ?_)
    rw [ez]
    refine zas (id := 1) (sp := 2) (off := a) rfl hF.out hF.nx1 (zqc (by omega)) ?_
    rw [hva]
    repeat (first | refine zb1 (op := .add) rfl rfl rfl ?_ | refine zbe rfl rfl (by omega) (by omega) ?_)
    rw [ez, w2]
    refine zce (id := 1) (sp := 2) (off := v) rfl rfl rfl hF.out (by simp; omega) rfl ?_
    repeat (first | refine za0 rfl ?_ | refine za5 ?_ | refine za4 ?_ | refine za3 rfl ?_ | refine zb6 rfl rfl ?_)
    have hF2 := (hF.set v (gI o a + 1)).fresh ck (.cells [.int .i64 (v : Nat)])
    refine o_qapp hF2 (List.cons_ne_nil _ _) (by rw [y0l, y0k]; rw [y0k] at hm9; omega) rfl rfl zaq (by decide) fun qv' hp' nx' ck' hF' => ?_
    repeat (first | refine za0 rfl ?_ | refine za5 ?_ | refine za4 ?_ | refine zbl ?_ | refine za3 rfl ?_ | refine zb1 (op := .add) rfl rfl rfl ?_)
    rw [w1]
    refine zay (show l.length - (i + 1) < l.length - i by omega) (zaa (.cons rfl (.cons rfl (.cons rfl (.cons rfl (.cons rfl (.cons rfl .nil))))))) ⟨i + 1, _, new ++ [v], _, _, _, _, rfl, hlt, by rw [hfs, y19], ?_, rfl⟩
    rw [← y19]
    exact hF'
   ·have h5 : ¬ gI o' v < 0 := of_decide_eq_false h5
    have hv1 : vis (gI o a + 1) (o', qs ++ new) v = (o', qs ++ new) := if_neg h5
    rw [hv1] at hfs
    repeat (first | refine za0 rfl ?_ | refine za5 ?_ | refine za4 ?_ | refine zbl ?_ | refine zaf ?_ | refine zc7 rfl ?_ | refine za3 rfl ?_ | refine zb1 (op := .add) rfl rfl rfl ?_)
    rw [w1]
    exact zay (show l.length - (i + 1) < l.length - i by omega) (zaa (.cons rfl (.cons rfl (.cons rfl (.cons rfl (.cons rfl (.cons rfl .nil))))))) ⟨i + 1, _, new, _, _, _, _, rfl, hlt, hfs, hF, rfl⟩
  ·have hie : i = l.length := by
    have h5 : ¬ ((i : Nat) : Int) < (((l.map fun w => ([.int .i64 (w : Nat)] : List AV)).length : Nat) : Int) := of_decide_eq_false h4
    rw [y07] at h5
    omega
   subst hie
   rw [y1k, e9] at hfo
   obtain ⟨rfl, hnn⟩ : o9 = o' ∧ qs ++ new9 = qs ++ new := ⟨congrArg Prod.fst hfo, congrArg Prod.snd hfo⟩
   obtain rfl := List.append_cancel_left hnn
   repeat (first | refine za7 ?_ | refine za5 ?_ | refine za4 ?_ | refine zc7 rfl ?_ | refine zbg ?_ | refine zac ?_)
   refine zdb ?_
   repeat (first | refine za0 rfl ?_ | refine za4 ?_ | refine zbl ?_ | refine zbf ?_ | refine za3 rfl ?_)
   refine o_qcut hF rfl fun qv' hF' => ?_
   repeat (first | refine za5 ?_ | refine za3 rfl ?_)
   exact zay hm9 (zaa (.cons rfl (.cons rfl (.cons rfl .nil)))) ⟨_, _, _, _, _, _, rfl, by rw [y0l] at hm9; omega, hB9, hF', rfl⟩
 ·obtain rfl : q = [] := by
   cases q with
   | nil => rfl
   | cons a qs =>
    have h4 : ¬ (((a :: qs).length : Nat) : Int) > 0 := of_decide_eq_false h3
    rw [y0l] at h4
    omega
  have he := hB.end.unique (zlb hf hb2)
  subst he
  repeat (first | refine za5 ?_ | refine za4 ?_ | refine zc7 rfl ?_ | refine zbg ?_ | refine zac ?_)
  refine zdb ?_
  repeat (first | refine za7 ?_ | refine za0 rfl ?_ | refine za5 ?_ | refine za4 ?_ | refine zao ?_ | refine zbf ?_ | refine za3 rfl ?_)
  refine zak ⟨.inr rfl, _, rfl, ?_⟩
  exact zd1 _ (by have := hB.len; exact this) hF.out
-- pneumatic/pneumaticref10.Vertex
def ic48 : IC := .seq (.region [oM 2 (.box (.t 0)),
  oM 4 (.mov (.c (.bool false)))] none)
 (.seq (.region [oT 5 1,
  oM 6 (.bin .geq (.t 5) (.c (.int .i64 0))),
  oT 7 6,
  ⟨(some 8), .mov (.t 1), some (7, true)⟩,
  ⟨(some 9), .faddr 0 (.t 2), some (7, true)⟩,
  ⟨(some 10), .load none (.t 9), some (7, true)⟩,
  ⟨(some 11), .bin .lss (.t 8) (.t 10), some (7, true)⟩,
  oM 12 (.pick (.t 7) (.t 11) (.c (.bool false))),
  oT 4 12] none)
 (.ret))
theorem fn48 : env0.fn 48 = some ⟨13, ic48, [.t 4]⟩ := by kernel_rfl
def b26_0 : IC := .seq (.seq (.region [oT 16 3,
  oF 17 1 1,
  oN 18 17,
  oM 19 (.len false (.t 18)),
  oM 20 (.bin .lss (.t 16) (.t 19))] none)
 (.cond (.t 20) (.skip)
 (.exit 0)))
 (.seq (.block 1 (.seq (.region [oL 23 2 1,
  oF 24 1 1,
  oN 25 24,
  oT 26 3,
  oM 27 (.idxs 2 (.t 25) (.t 26)),
  oF 28 0 27,
  oN 29 28,
  oM 30 (.call (.c (.fn 48 [] [])) [(.t 23), (.t 29)]),
  oM 31 (.un .not (.t 30)),
  oT 32 31,
  ⟨(some 33), .load (some 2) (.t 1), some (32, false)⟩,
  ⟨(some 34), .faddr 1 (.t 1), some (32, false)⟩,
  ⟨(some 35), .load none (.t 34), some (32, false)⟩,
  ⟨(some 36), .mov (.t 3), some (32, false)⟩,
  ⟨(some 37), .idxs 2 (.t 35) (.t 36), some (32, false)⟩,
  ⟨(some 38), .faddr 1 (.t 37), some (32, false)⟩,
  ⟨(some 39), .load none (.t 38), some (32, false)⟩,
  ⟨(some 40), .call (.c (.fn 48 [] [])) [(.t 33), (.t 39)], some (32, false)⟩,
  ⟨(some 41), .un .not (.t 40), some (32, false)⟩,
  oM 42 (.pick (.t 32) (.c (.bool true)) (.t 41))] (some [[], [], [1], [], [2, 3], [4], [5], [0, 6], [7], [8, 7], [9], [9], [11, 9], [9], [12, 13, 9], [14, 9], [15, 9], [10, 16, 9, 9], [17, 9], [9, 18]]))
 (.cond (.t 42) (.seq (.region [oM 2 (.mov (.c (.int .i64 2)))] none)
 (.ret))
 (.skip))))
 (.region [oT 21 3,
  oM 22 (.bin .add (.t 21) (.c (.int .i64 1))),
  oT 3 22] none))
-- pneumatic/pneumaticref10.Check
def ic26 : IC := .seq (.region [oM 1 (.box (.t 0)),
  oM 2 (.mov (.c (.int .i64 0)))] none)
 (.seq (.seq (.region [oF 4 0 1,
  oN 5 4,
  oM 6 (.bin .lss (.t 5) (.c (.int .i64 0))),
  oT 7 6,
  ⟨(some 8), .faddr 0 (.t 1), some (7, false)⟩,
  ⟨(some 9), .load none (.t 8), some (7, false)⟩,
  ⟨(some 10), .bin .gtr (.t 9) (.c (.int .i64 256)), some (7, false)⟩,
  oM 11 (.pick (.t 7) (.c (.bool true)) (.t 10))] none)
 (.cond (.t 11) (.seq (.region [oM 2 (.mov (.c (.int .i64 2)))] none)
 (.ret))
 (.skip)))
 (.seq (.seq (.region [oF 12 1 1,
  oN 13 12,
  oM 14 (.len false (.t 13)),
  oM 15 (.bin .gtr (.t 14) (.c (.int .i64 4096)))] none)
 (.cond (.t 15) (.seq (.region [oM 2 (.mov (.c (.int .i64 5)))] none)
 (.ret))
 (.skip)))
 (.seq (.seq (.region [oM 3 (.mov (.c (.int .i64 0)))] none)
 (.block 0 (.loop b26_0)))
 (.seq (.region [oM 2 (.mov (.c (.int .i64 0)))] none)
 (.ret)))))
theorem fn26 : env0.fn 26 = some ⟨43, ic26, [.t 2]⟩ := by kernel_rfl
theorem zre (n : Int) (es : List (Int × Int)) (v : Int) : PF Try.prog 48 [cG n es, .int .i64 v] (.bool (!zgb n v)) := by
 refine zb0 env0_ok fn48 [(0, .agg [.int .i64 n, .vs (cE es)]), (1, .int .i64 v)] (by show 2 ≤ 13; decide) rfl fun w0 N0 => ?_
 unfold ic48
 refine zsr rfl (zcz rfl rfl (za3 rfl (onu ?_)))
 refine zbm [] [(0, 0, [.int .i64 n, .vs (cE es)])] [(1, .int .i64 v), (2, .vptr [.int .i64 n, .vs (cE es)])] rfl (.cons rfl rfl .nil) .nil (.cons rfl (.same rfl) (.cons rfl (.fptr rfl rfl) .nil)) ?_
 unfold zgb
 repeat (first | refine za7 ?_ | refine za0 rfl ?_ | refine za3 rfl ?_)
 refine zax rfl rfl rfl (fun h5 => ?_) fun h5 => ?_
 ·have h5 : v ≥ 0 := of_decide_eq_true h5
  repeat (first | refine zh4 rfl ?_ | refine za3 rfl ?_ | refine zad rfl rfl ?_ | refine zai rfl rfl rfl ?_)
  refine zax rfl rfl rfl (fun h6 => ?_) fun h6 => ?_
  ·have h6 : v < n := of_decide_eq_true h6
   repeat (first | refine za5 ?_ | refine za4 ?_ | refine zao ?_ | refine za3 rfl ?_ | refine zbk rfl rfl ?_)
   exact zak ⟨.inr rfl, _, rfl, by rw [decide_eq_false (by omega), decide_eq_false (by omega)]; rfl⟩
  ·have h6 : ¬ v < n := of_decide_eq_false h6
   repeat (first | refine za5 ?_ | refine za4 ?_ | refine zao ?_ | refine za3 rfl ?_ | refine zbk rfl rfl ?_)
   exact zak ⟨.inr rfl, _, rfl, by rw [decide_eq_false (by omega), decide_eq_true (by omega)]; rfl⟩
 ·have h5 : ¬ v ≥ 0 := of_decide_eq_false h5
  repeat (first | refine za5 ?_ | refine za4 ?_ | refine zao ?_ | refine zkk rfl rfl ?_ | refine za3 rfl ?_ | refine zbb rfl rfl ?_)
  exact zak ⟨.inr rfl, _, rfl, by rw [decide_eq_true (by omega)]; rfl⟩
theorem zua {n : Int} {es : List (Int × Int)} {i : Nat} (h : i < es.length) : zoj n (es.drop i) = if zgb n es[i].1 = true then 2 else if zgb n es[i].2 = true then 2 else zoj n (es.drop (i + 1)) := by
 rw [y1n h, zmz]
 unfold zjx
 rw [y2o, y2o, List.any_nil, Bool.or_false]
 cases zgb n es[i].1 <;> cases zgb n es[i].2 <;> rfl
theorem zs9 {f : FuncId} {args bs : List AV} {v w : AV} {l : List (FuncId × List AV × AV)} (h : bs ≠ args) (k : zf7 l f args = some w) : zf7 ((f, bs, v) :: l) f args = some w := by
 simp [zf7, h, k]
set_option maxHeartbeats 2000000 in
theorem check35 (n : Int) (es : List (Int × Int)) : PF Try.prog 26 [cG n es] (.int .i64 (zgc n es)) := by
 have hcl := zco es
 refine zb0 env0_ok fn26 [(0, .agg [.int .i64 n, .vs (cE es)])] (by show 1 ≤ 43; decide) rfl fun w0 N0 => ?_
 unfold ic26
 refine zsr rfl (zcz rfl rfl (za3 rfl (onu ?_)))
 refine zbm [] [(0, 0, [.int .i64 n, .vs (cE es)])] [(1, .vptr [.int .i64 n, .vs (cE es)])] rfl (.cons rfl rfl .nil) .nil (.cons rfl (.fptr rfl rfl) .nil) ?_
 repeat (first | refine za7 ?_ | refine za0 rfl ?_ | refine zad rfl rfl ?_ | refine zai rfl rfl rfl ?_)
 refine zax rfl rfl rfl (fun h => ?_) fun h => ?_
 ·repeat (first | refine za7 ?_ | refine za0 rfl ?_ | refine za5 ?_ | refine za4 ?_ | refine zc8 rfl ?_ | refine zao ?_ | refine za9 ?_ | refine zkk rfl rfl ?_ | refine za3 rfl ?_ | refine zbk rfl rfl ?_)
  exact zak ⟨.inr rfl, _, rfl, by rw [zl4 (of_decide_eq_true h)]; rfl⟩
 have h0 : ¬ n < 0 := of_decide_eq_false h
 repeat (first | refine zh4 rfl ?_ | refine za3 rfl ?_ | refine zad rfl rfl ?_ | refine zai rfl rfl rfl ?_)
 refine zax rfl rfl rfl (fun h => ?_) fun h => ?_
 ·repeat (first | refine za7 ?_ | refine za0 rfl ?_ | refine za5 ?_ | refine za4 ?_ | refine zc8 rfl ?_ | refine zao ?_ | refine za9 ?_ | refine za3 rfl ?_ | refine zbb rfl rfl ?_)
  exact zak ⟨.inr rfl, _, rfl, by rw [zl3 (of_decide_eq_true h)]; rfl⟩
 have h1 : ¬ n > 256 := of_decide_eq_false h
 repeat (first | refine za7 ?_ | refine za0 rfl ?_ | refine za5 ?_ | refine za4 ?_ | refine zaf ?_ | refine zc7 rfl ?_ | refine zad rfl rfl ?_ | refine zai rfl rfl rfl ?_ | refine zbb rfl rfl ?_ | refine zbo rfl rfl ?_)
 refine zax rfl rfl rfl (fun h => ?_) fun h => ?_
 ·have h2 : (((cE es).length : Nat) : Int) > 4096 := of_decide_eq_true h
  repeat (first | refine za7 ?_ | refine za0 rfl ?_ | refine za5 ?_ | refine za4 ?_ | refine zc8 rfl ?_ | refine zao ?_ | refine za9 ?_ | refine za3 rfl ?_)
  exact zak ⟨.inr rfl, _, rfl, by rw [zhy h0 h1 (by omega)]; rfl⟩
 have h2 : ¬ (((cE es).length : Nat) : Int) > 4096 := of_decide_eq_false h
 rw [ztv h0 h1 (by omega)]
 repeat (first | refine za7 ?_ | refine za0 rfl ?_ | refine za5 ?_ | refine za4 ?_ | refine zab ?_ | refine zaf ?_ | refine zc7 rfl ?_ | refine za3 rfl ?_)
 refine zbv (fun mm S => ∃ i, mm = es.length - i ∧ i ≤ es.length ∧ zoj n (es.drop i) = zoj n es ∧ S = st 43 [(1, .vptr [.int .i64 n, .vs (cE es)]), (3, .int .i64 (i : Nat))] [] 0 1) es.length
  (zaa (.cons rfl (.cons rfl .nil))) ⟨0, rfl, y12 _, rfl, rfl⟩ ?_
 rintro mm S ⟨i, rfl, hi, hv, rfl⟩
 unfold b26_0
 repeat (first | refine za7 ?_ | refine za0 rfl ?_ | refine za3 rfl ?_ | refine zad rfl rfl ?_ | refine zai rfl rfl rfl ?_ | refine zbo rfl rfl ?_)
 refine zax rfl rfl rfl (fun h3 => ?_) fun h3 => ?_
 ·have hlt : i < es.length := by
   have h4 : ((i : Nat) : Int) < (((cE es).length : Nat) : Int) := of_decide_eq_true h3
   omega
  have w1 : IntKind.wrap .i64 (((i : Nat) : Int) + 1) = ((i + 1 : Nat) : Int) := zam i (by omega)
  have hg := zq0 hlt
  have hs := zua (n := n) hlt
  have pa := zre n es es[i].1
  have pb := zre n es es[i].2
  generalize es[i].1 = a at *
  generalize es[i].2 = b at *
  repeat (first | refine za7 ?_ | refine za5 ?_ | refine za4 ?_ | refine zab ?_ | refine zaf ?_ | refine zc8 rfl ?_)
  refine zpm env0_ok [(48, [cG n es, .int .i64 a], .bool (!zgb n a)), (48, [cG n es, .int .i64 b], .bool (!zgb n b))] (fun x hx => by
   rcases y0j.1 hx with rfl | hx
   ·exact pa
   obtain rfl := y0e.1 hx
   exact pb) (fun f => Nat.beq f 48) rfl rfl rfl ?_
  have lkb : zf7 [(48, [cG n es, .int .i64 a], .bool (!zgb n a)), (48, [cG n es, .int .i64 b], .bool (!zgb n b))] 48 [cG n es, .int .i64 b] = some (.bool (!zgb n b)) := by
   by_cases hab : a = b
   ·subst hab
    exact ze0
   ·exact zs9 (fun e => hab (by simpa using e)) ze0
  repeat (first | refine za3 rfl ?_ | refine zad rfl rfl ?_ | refine zb2 rfl rfl rfl rfl ?_ | refine zai rfl rfl rfl ?_ | refine zb7 rfl rfl (by omega) (by assumption) rfl ?_)
  refine zb9 rfl rfl ze0 noC ?_
  cases ea : zgb n a with
  | true =>
   rw [ea, if_pos rfl, hv] at hs
   repeat (first | refine za7 ?_ | refine za0 rfl ?_ | refine za5 ?_ | refine za4 ?_ | refine zc8 rfl ?_ | refine zao ?_ | refine za9 ?_ | refine zaj ?_ | refine zkk rfl rfl ?_ | refine za3 rfl ?_ | refine zbk rfl rfl ?_ | refine zmd rfl rfl ?_)
   exact zak ⟨.inr rfl, _, rfl, by rw [hs]; rfl⟩
  | false =>
   rw [ea, if_neg Bool.false_ne_true] at hs
   rw [ea] at lkb
   repeat (first | refine zh4 rfl ?_ | refine za3 rfl ?_ | refine zad rfl rfl ?_ | refine zb2 rfl rfl rfl rfl ?_ | refine zai rfl rfl rfl ?_ | refine zmd rfl rfl ?_ | refine zb7 rfl rfl (by omega) (by assumption) rfl ?_)
   refine zb9 rfl rfl lkb noC ?_
   cases eb : zgb n b with
   | true =>
    rw [eb, if_pos rfl, hv] at hs
    repeat (first | refine za7 ?_ | refine za0 rfl ?_ | refine za5 ?_ | refine za4 ?_ | refine zc8 rfl ?_ | refine zao ?_ | refine za9 ?_ | refine zaj ?_ | refine zh4 rfl ?_ | refine za3 rfl ?_ | refine zbb rfl rfl ?_ | refine zmd rfl rfl ?_)
    exact zak ⟨.inr rfl, _, rfl, by rw [hs]; rfl⟩
   | false =>
    rw [eb, if_neg Bool.false_ne_true, hv] at hs
    repeat (first | refine za0 rfl ?_ | refine za5 ?_ | refine za4 ?_ | refine zbl ?_ | refine zaf ?_ | refine zc7 rfl ?_ | refine zh4 rfl ?_ | refine za3 rfl ?_ | refine zbb rfl rfl ?_ | refine zmd rfl rfl ?_ | refine zb1 (op := .add) rfl rfl rfl ?_)
    rw [w1]
    exact zay (show es.length - (i + 1) < es.length - i by omega) (zaa (.cons rfl (.cons rfl .nil))) ⟨i + 1, rfl, hlt, hs.symm, rfl⟩
 ·have hie : i = es.length := by
   have h4 : ¬ ((i : Nat) : Int) < (((cE es).length : Nat) : Int) := of_decide_eq_false h3
   omega
  rw [hie, List.drop_length] at hv
  repeat (first | refine za5 ?_ | refine za4 ?_ | refine zc7 rfl ?_ | refine zbg ?_ | refine zac ?_)
  refine zdb ?_
  repeat (first | refine za7 ?_ | refine za0 rfl ?_ | refine za5 ?_ | refine za4 ?_ | refine zao ?_ | refine zbf ?_ | refine za3 rfl ?_)
  exact zak ⟨.inr rfl, _, rfl, by rw [← hv]; rfl⟩
def zi3 (n : Int) (es : List (Int × Int)) (l : List Int) : Int := if zgc n es = 0 then zjx n l else zgc n es
end Go.Proofs.Ytfbeableaihooaa
namespace Go.Proofs
open Go.Shelf
def Try.lays191_ren : Go.Shelf.Ren := ⟨fun | 191 => 66 | 189 => 77 | 125 => 81 | 257 => 80 | 128 => 91 | 129 => 92 | 294 => 82 | 295 => 83 | 296 => 84 | 297 => 85 | 298 => 86 | 299 => 87 | 216 => 88 | 300 => 89 | 301 => 90 | 328 => 93 | 329 => 94 | 330 => 95 | 331 => 96 | 332 => 97 | 215 => 98 | 343 => 99 | n => n, fun | 28 => 34 | 0 => 0 | 3 => 3 | 46 => 114 | 51 => 117 | 53 => 45 | 4 => 4 | 183 => 126 | 182 => 125 | 131 => 110 | 5 => 5 | 9 => 9 | 218 => 133 | 222 => 137 | 228 => 139 | 229 => 140 | n => n, fun | n => n⟩
theorem Try.lays191 : Go.Proofs.Lays.n191 Try.prog Try.lays191_ren := {
 mixed := by kernel_rfl
 f125 := Try.func81.trans (congrArg some (by kernel_rfl))
 f128 := Try.func91.trans (congrArg some (by kernel_rfl))
 f129 := Try.func92.trans (congrArg some (by kernel_rfl))
 f189 := Try.func77.trans (congrArg some (by kernel_rfl))
 f191 := Try.func66.trans (congrArg some (by kernel_rfl))
 f215 := Try.func98.trans (congrArg some (by kernel_rfl))
 f216 := Try.func88.trans (congrArg some (by kernel_rfl))
 f257 := Try.func80.trans (congrArg some (by kernel_rfl))
 f294 := Try.func82.trans (congrArg some (by kernel_rfl))
 f295 := Try.func83.trans (congrArg some (by kernel_rfl))
 f296 := Try.func84.trans (congrArg some (by kernel_rfl))
 f297 := Try.func85.trans (congrArg some (by kernel_rfl))
 f298 := Try.func86.trans (congrArg some (by kernel_rfl))
 f299 := Try.func87.trans (congrArg some (by kernel_rfl))
 f300 := Try.func89.trans (congrArg some (by kernel_rfl))
 f301 := Try.func90.trans (congrArg some (by kernel_rfl))
 f328 := Try.func93.trans (congrArg some (by kernel_rfl))
 f329 := Try.func94.trans (congrArg some (by kernel_rfl))
 f330 := Try.func95.trans (congrArg some (by kernel_rfl))
 f331 := Try.func96.trans (congrArg some (by kernel_rfl))
 f332 := Try.func97.trans (congrArg some (by kernel_rfl))
 f343 := Try.func99.trans (congrArg some (by kernel_rfl))
 t0 := Try.underlying0
 a0 := Try.isAgg0
 z0 := Try.sizeOf0
 v0 := Try.zeroValue0
 t3 := Try.underlying3
 a3 := Try.isAgg3
 z3 := Try.sizeOf3
 v3 := Try.zeroValue3
 t4 := Try.underlying4
 a4 := Try.isAgg4
 z4 := Try.sizeOf4
 v4 := Try.zeroValue4
 t5 := Try.underlying5
 a5 := Try.isAgg5
 z5 := Try.sizeOf5
 v5 := Try.zeroValue5
 t9 := Try.underlying9
 a9 := Try.isAgg9
 z9 := Try.sizeOf9
 v9 := Try.zeroValue9
 t28 := Try.underlying34
 a28 := Try.isAgg34
 z28 := Try.sizeOf34
 v28 := Try.zeroValue34
 t46 := Try.underlying114
 a46 := Try.isAgg114
 z46 := Try.sizeOf114
 v46 := Try.zeroValue114
 t51 := Try.underlying117
 a51 := Try.isAgg117
 z51 := Try.sizeOf117
 v51 := Try.zeroValue117
 t53 := Try.underlying45
 a53 := Try.isAgg45
 z53 := Try.sizeOf45
 v53 := Try.zeroValue45
 t131 := Try.underlying110
 a131 := Try.isAgg110
 z131 := Try.sizeOf110
 v131 := Try.zeroValue110
 t182 := Try.underlying125
 a182 := Try.isAgg125
 z182 := Try.sizeOf125
 v182 := Try.zeroValue125
 t183 := Try.underlying126
 a183 := Try.isAgg126
 z183 := Try.sizeOf126
 v183 := Try.zeroValue126
 t218 := Try.underlying133
 a218 := Try.isAgg133
 z218 := Try.sizeOf133
 v218 := Try.zeroValue133
 t222 := Try.underlying137
 a222 := Try.isAgg137
 z222 := Try.sizeOf137
 v222 := Try.zeroValue137
 t228 := Try.underlying139
 a228 := Try.isAgg139
 z228 := Try.sizeOf139
 v228 := Try.zeroValue139
 t229 := Try.underlying140
 a229 := Try.isAgg140
 z229 := Try.sizeOf140
 v229 := Try.zeroValue140 }
open Go.Sort Go.RowKit in
theorem Try.sort_Ints (blk off cap : Nat) (zs : List Int) (w : World) (hH : Holds (Value.int .i64) w blk off zs.toArray) (hblk : blk < w.heap.size) (hsz : zs.length < 4611686018427387904) :
  Calls Try.prog 66 #[.slice (some ⟨blk, off, none⟩) zs.length cap] w fun e w' =>
   e = .returned (.tuple #[]) ∧ ∃ n os, w' = grow (putRow (Value.int .i64) (Sort.ahead w n) blk off (zs.mergeSort fun x y => decide (x ≤ y)).toArray) os := Any.sort_Ints Try.lays191 blk off cap zs w hH hblk hsz
def Try.laysNm220_ren : Go.Shelf.Ren := ⟨fun | 20 => 67 | n => n, fun | 22 => 34 | 3 => 3 | 4 => 4 | 0 => 0 | n => n, fun | n => n⟩
theorem Try.laysNm220 : Go.Proofs.Lays2.n20 Try.prog Try.laysNm220_ren := {
 mixed := by kernel_rfl
 f20 := Try.func67.trans (congrArg some (by kernel_rfl))
 t0 := Try.underlying0
 a0 := Try.isAgg0
 z0 := Try.sizeOf0
 v0 := Try.zeroValue0
 t3 := Try.underlying3
 a3 := Try.isAgg3
 z3 := Try.sizeOf3
 v3 := Try.zeroValue3
 t4 := Try.underlying4
 a4 := Try.isAgg4
 z4 := Try.sizeOf4
 v4 := Try.zeroValue4
 t22 := Try.underlying34
 a22 := Try.isAgg34
 z22 := Try.sizeOf34
 v22 := Try.zeroValue34
 i3 := by kernel_rfl }
open Go.RowKit Go.Lib Go.Sort in
theorem Try.slices_Compact_int (blk off cap : Nat) (zs : List Int) (w : World) (hH : Holds (Value.int .i64) w blk off zs.toArray) (hsz : zs.length ≤ 9223372036854775807) (hcap : zs.length ≤ cap) :
  Calls Try.prog 67 #[.slice (some ⟨blk, off, none⟩) zs.length cap] w fun e w' => e = .returned (.slice (some ⟨blk, off, none⟩) (Lib.compact zs).length cap) ∧ ∃ q, w' = putRow (Value.int .i64) (Sort.ahead w q) blk off (Lib.compact zs ++ List.replicate (zs.length - (Lib.compact zs).length) 0).toArray := Any.slices_Compact_int Try.laysNm220 blk off cap zs w hH hsz hcap
namespace Ytfbeableaihooaa
open Go Go.Am Go.RowKit
theorem ent64 : Ent Try.prog 66 := zuc Try.func66 rfl (by kernel_rfl)
theorem ent65 : Ent Try.prog 67 := zuc Try.func67 rfl (by kernel_rfl)
theorem sorts64 : Sorts Try.prog 66 := fun blk off cap zs w hH hb hz => Try.sort_Ints blk off cap zs w hH hb hz
theorem cpts65 : Cpts Try.prog 67 := fun blk off cap zs w hH hz hc => Try.slices_Compact_int blk off cap zs w hH hz hc
end Ytfbeableaihooaa
end Go.Proofs
namespace Go.Proofs.Ytfbeableaihooaa
open Go Go.Am
def b42_0 : IC := .seq (.region [oM 14 (.bin .lss (.t 13) (.t 12))] none)
 (.seq (.cond (.t 14) (.skip)
 (.exit 0))
 (.seq (.block 1 (.seq (.region [oM 15 (.idxs 2 (.t 11) (.t 13)),
  oL 16 2 15,
  oM 5 (.alloc [.int .i64 0, .int .i64 0]),
  ⟨none, .store 2 (.t 5) (.t 16), none⟩] none)
 (.region [oT 17 3,
  oF 18 0 5,
  oN 19 18,
  oT 20 3,
  oF 21 0 5,
  oN 22 21,
  oM 23 (.idxs 1 (.t 20) (.t 22)),
  oN 24 23,
  oF 25 1 5,
  oN 26 25,
  oM 27 (.bslice 1 1 [.int .i64 0] [(0, 1, (.t 26))]),
  oM 28 (.append 1 8 [.int .i64 0] (.t 24) (.t 27)),
  oM 29 (.idxs 1 (.t 17) (.t 19)),
  ⟨none, .store 1 (.t 29) (.t 28), none⟩] (some [[], [], [1], [], [], [4], [3, 5], [6], [], [8], [9], [7, 10], [0, 2, 0, 1, 2, 3, 4, 5, 6, 7, 8, 9, 10, 11], [12, 11, 11, 0, 1, 2, 3, 4, 5, 6, 7, 8, 9, 10, 11]]))))
 (.region [oM 30 (.bin .add (.t 13) (.c (.int .i64 1))),
  oT 13 30] none)))
def b42_2 : IC := .seq (.region [oM 34 (.bin .lss (.t 33) (.t 32))] none)
 (.seq (.cond (.t 34) (.skip)
 (.exit 2))
 (.seq (.block 3 (.seq (.region [oT 35 33,
  oT 6 35] none)
 (.seq (.region [oT 36 3,
  oT 37 6,
  oM 38 (.idxs 1 (.t 36) (.t 37)),
  oN 39 38,
  oM 40 (.call (.c (.fn 66 [] [])) [(.t 39)])] none)
 (.region [oT 41 3,
  oT 42 6,
  oT 43 3,
  oT 44 6,
  oM 45 (.idxs 1 (.t 43) (.t 44)),
  oN 46 45,
  oM 47 (.call (.c (.fn 67 [] [])) [(.t 46)]),
  oM 48 (.idxs 1 (.t 41) (.t 42)),
  ⟨none, .store 1 (.t 48) (.t 47), none⟩] none))))
 (.region [oM 49 (.bin .add (.t 33) (.c (.int .i64 1))),
  oT 33 49] none)))
-- pneumatic/digraph.joined
def ic42 : IC := .seq (.region [oM 1 (.box (.t 0)),
  oM 2 (.mov (.c (.nils)))] none)
 (.seq (.region [oF 7 0 1,
  oN 8 7,
  oM 9 (.mkslice 1 24 [.nils] (.t 8) (.t 8)),
  oT 3 9] none)
 (.seq (.seq (.region [oF 10 1 1,
  oN 11 10,
  oM 12 (.len false (.t 11)),
  oM 13 (.mov (.c (.int .i64 0)))] none)
 (.block 0 (.loop b42_0)))
 (.seq (.seq (.region [oT 31 3,
  oM 32 (.len false (.t 31)),
  oM 33 (.mov (.c (.int .i64 0)))] none)
 (.block 2 (.loop b42_2)))
 (.seq (.region [oT 50 3,
  oT 2 50] none)
 (.ret)))))
theorem fn42 : env0.fn 42 = some ⟨51, ic42, [.t 2]⟩ := by kernel_rfl
def reg45i : List Opr := [oT 17 3, oF 18 0 5, oN 19 18, oT 20 3, oF 21 0 5, oN 22 21, oM 23 (.idxs 1 (.t 20) (.t 22)), oN 24 23, oF 25 1 5, oN 26 25, oM 27 (.bslice 1 1 [.int .i64 0] [(0, 1, (.t 26))]), oM 28 (.append 1 8 [.int .i64 0] (.t 24) (.t 27)), oM 29 (.idxs 1 (.t 17) (.t 19)), ⟨none, .store 1 (.t 29) (.t 28), none⟩]
def reg45p : List (List Nat) := [[], [], [1], [], [], [4], [3, 5], [6], [], [8], [9], [7, 10], [0, 2, 0, 1, 2, 3, 4, 5, 6, 7, 8, 9, 10, 11], [12, 11, 11, 0, 1, 2, 3, 4, 5, 6, 7, 8, 9, 10, 11]]
structure Rw (m : Nat) (L : Nat → List Int) (nz : Nat → Bool) (cv : Nat → AV) (C : Nat → List Int) (ids sps : Nat → Nat) : Prop where
 some : ∀ v, v < m → nz v = true → L v ≠ [] ∧ C v = L v ∧ cv v = .ms (ids v) (sps v) 1 0 (L v).length none
 none : ∀ v, v < m → nz v = false → L v = [] ∧ cv v = .nils
theorem zka {d : Nat} {v : AV} {l l' : List (Nat × AV)} (h : KeepA l l') (hd : ∀ x ∈ l', x.1 ≠ d) : KeepA ((d, v) :: l) l' := by
 induction h with
 | nil => exact .nil
 | @cons e u l2 h _ ih =>
  refine .cons ?_ (ih fun x hx => hd x (y04 _ hx))
  have := hd (e, u) (y05 ..)
  rw [zbw]
  cases hb : Nat.beq d e with
  | true => exact absurd (y0n hb).symm this
  | false => exact h
set_option maxHeartbeats 2000000 in
theorem reg45 {w0 : World} {N0 : Nat} {k : List Fr} {Q : Exit → AS → Prop} {y : IC} {m : Nat} {L : Nat → List Int} {nz : Nat → Bool} {cv : Nat → AV} {C : Nat → List Int} {ids sps : Nat → Nat} {hp : List (Nat × Nat × AObj)} {nx ck j s5 a b : Nat} {l : List (Nat × AV)}
  (hJ : Jn m nz cv C ids sps hp nx) (hR : Rw m L nz cv C ids sps) (k5 : Am.look j hp = some (s5, .cells [.int .i64 (a : Nat), .int .i64 (b : Nat)])) (hjn : j < nx) (hjd : ∀ v, v < m → nz v = true → ids v ≠ j) (ha : a < m) (hL : (L a).length ≤ 100000)
  (h3 : zbw 3 l = some (.ms 0 1 1 0 m (some m))) (h5 : zbw 5 l = some (.mptr j s5 0)) {l' : List (Nat × AV)} (hk : KeepA l l') (hd : ∀ x ∈ l', x.1 < 17)
  (fin : ∀ hp' nx' ck' nz' cv' C' ids' sps', Jn m nz' cv' C' ids' sps' hp' nx' → Rw m (upd L a (L a ++ [((b : Nat) : Int)])) nz' cv' C' ids' sps' → Zm Try.prog w0 N0 none y (st 51 l' hp' nx' ck') k Q) :
  Zm Try.prog w0 N0 none (.region reg45i (some reg45p)) (st 51 l hp nx ck) (.blk 1 :: .seq y :: k) Q := by
 have ez : ∀ o : Nat, 0 + ((o : Nat) : Int).toNat * 1 = o := fun o => by simp
 have hld0 : (fun i => Nat.beq i 0 || Nat.beq i j) 0 = true := rfl
 have hldj : (fun i => Nat.beq i 0 || Nat.beq i j) j = true := by show (Nat.beq j 0 || Nat.beq j j) = true; rw [y25, Bool.or_true]
 refine z_cut env0_ok 12 [] (fun x hx => by cases hx) (fun _ => false) (fun i => Nat.beq i 0 || Nat.beq i j) (fun i => !(Nat.beq i 0 || Nat.beq i j)) (fun i h1 h2 => by rw [h1] at h2; cases h2) rfl rfl rfl rfl ?_
 show Om _ _ _ _ _ [_, _, _, _, _, _, _, _, _, _, _, _] _ _ _
 refine za3 h3 ?_
 refine zar h5 ?_
 refine zas (id := j) (sp := s5) (off := 0) rfl k5 hjn rfl ?_ (zs5 rfl hldj)
 refine za3 h3 ?_
 refine zar h5 ?_
 refine zas (id := j) (sp := s5) (off := 0) rfl k5 hjn rfl ?_ (zs5 rfl hldj)
 refine zbe rfl rfl (y1z a) (y1i.2 ha) ?_
 rw [ez]
 refine zas (id := 0) (sp := 1) (off := a) rfl hJ.top hJ.nx0 (hJ.get ha) ?_ (zs5 rfl hld0)
 refine zar h5 ?_
 refine zas (id := j) (sp := s5) (off := 0 + 1) rfl k5 hjn rfl ?_ (zs5 rfl hldj)
 refine zb6 rfl rfl ?_ rfl
 have J1 := hJ.fresh ck (.cells [.int .i64 (b : Nat)])
 have hel : ∀ l : List (Nat × AV), (st 51 l ((nx, ck, AObj.cells [.int .i64 (b : Nat)]) :: hp) (nx + 1) (ck + 1) []).elems 1 (.ms nx ck 1 0 1 (some 1)) = some [[.int .i64 (b : Nat)]] := fun l => zcr (xs := [[.int .i64 (b : Nat)]]) (ys := []) zaq rfl fun x hx => by obtain rfl := y0e.1 hx; rfl
 cases hz : nz a with
 | false =>
  obtain ⟨e1, e2⟩ := hR.none a ha hz
  have J2 := (J1.add a (ck + 1) [((b : Nat) : Int)]).cset a (.ms (nx + 1) (ck + 1) 1 0 1 none)
  refine zdu (v := .ms (nx + 1) (ck + 1) 1 0 1 none) (hp' := (nx + 1, ck + 1, .cells [.int .i64 (b : Nat)]) :: (nx, ck, .cells [.int .i64 (b : Nat)]) :: hp) (nx' := nx + 1 + 1) (ck' := ck + 1 + 1) (congrArg some e2) rfl (hel []) rfl ?_ (zp8 (congrArg some e2))
  refine za5 (zak ⟨rfl, fun rd => ?_⟩)
  refine AnyF.one 12 rfl (zh5 (i := 12) rfl rfl (zoo rfl rfl (y1z a) (y1i.2 ha)) ?_)
  rw [ez]
  refine AnyF.one 13 rfl (zmi (i := 13) rfl (zh8 (id := 0) (sp := 1) (off := a) rfl rfl rfl rfl (J1.add a (ck + 1) [((b : Nat) : Int)]).top (Nat.ble_eq_true_of_le (by simp; omega)) rfl) ?_)
  rw [zjq (by simp; exact ha)]
  refine AnyF.fin rfl (Um.ok (zbl (za4 (zo1 (zaa (l' := l') ?_) (fin _ _ _ _ _ _ _ _ J2 ?_)))))
  ·repeat (refine zka ?_ (fun x hx => by have := hd x hx; omega))
   exact hk
  ·constructor
   ·intro v hv hz'
    by_cases e : v = a
    ·subst e
     rw [zb4, zb4, zb4, zb4, zb4, e1]
     exact ⟨List.cons_ne_nil _ _, rfl, rfl⟩
    ·rw [zae _ _ e] at hz'
     rw [zae _ _ e, zae _ _ e, zae _ _ e, zae _ _ e, zae _ _ e]
     exact hR.some v hv hz'
   ·intro v hv hz'
    by_cases e : v = a
    ·subst e
     rw [zb4] at hz'
     cases hz'
    ·rw [zae _ _ e] at hz'
     rw [zae _ _ e, zae _ _ e]
     exact hR.none v hv hz'
 | true =>
  obtain ⟨_, e1, e2⟩ := hR.some a ha hz
  have hp9 := hJ.pos a ha hz
  have hja := hjd a ha hz
  have J2 := (J1.block ha hz (ck + 1) (L a ++ [((b : Nat) : Int)])).cset a (.ms (ids a) (ck + 1) 1 0 ((L a).length + 1) none)
  have hsd : (fun i => !(Nat.beq i 0 || Nat.beq i j)) (ids a) = true := by
   have h1 : Nat.beq (ids a) 0 = false := by
    cases hb : Nat.beq (ids a) 0 with
    | false => rfl
    | true => have := y0n hb; omega
   have h2 : Nat.beq (ids a) j = false := by
    cases hb : Nat.beq (ids a) j with
    | false => rfl
    | true => exact absurd (y0n hb) hja
   show (!(Nat.beq (ids a) 0 || Nat.beq (ids a) j)) = true
   rw [h1, h2]
   rfl
  have hc := J1.cell a ha hz
  rw [e1] at hc
  have ap := zj7 (n := 51) (l := (27, .ms nx ck 1 0 1 (some 1)) :: (26, .int .i64 (b : Nat)) :: (25, .mptr j s5 (0 + 1)) :: (24, cv a) :: (23, .mptr 0 1 a) :: (22, .int .i64 (a : Nat)) :: (21, .mptr j s5 (0 + 0)) :: (20, .ms 0 1 1 0 m (some m)) :: (19, .int .i64 (a : Nat)) :: (18, .mptr j s5 (0 + 0)) :: (17, .ms 0 1 1 0 m (some m)) :: l) (hp := (nx, ck, .cells [.int .i64 (b : Nat)]) :: hp) (nx := nx + 1) (ck := ck + 1) (mk := []) (sz := 1) (bytes := 8) (z := [.int .i64 0]) (s := .t 24) (x := .t 27) [[.int .i64 (b : Nat)]] (id := ids a) (sp := sps a) (len := (L a).length) (congrArg some e2) rfl (hel _) (y2x 0) rfl (by decide) hc (by rw [y07, Nat.mul_one]) (by show (L a).length + 1 ≤ 1048576; omega)
  have e0 : (L a).map (AV.int .i64) ++ [[AV.int .i64 (b : Nat)]].flatten = (L a ++ [((b : Nat) : Int)]).map (AV.int .i64) := by rw [y16]; rfl
  rw [e0] at ap
  refine zdl ap ?_ (apOk (congrArg some e2) hsd)
  refine za5 (zak ⟨rfl, fun rd => ?_⟩)
  refine AnyF.one 12 rfl (zh5 (i := 12) rfl rfl (zoo rfl rfl (y1z a) (y1i.2 ha)) ?_)
  rw [ez]
  refine AnyF.one 13 rfl (zmi (i := 13) rfl (zh8 (id := 0) (sp := 1) (off := a) rfl rfl rfl rfl (J1.block ha hz (ck + 1) (L a ++ [((b : Nat) : Int)])).top (Nat.ble_eq_true_of_le (by simp; omega)) rfl) ?_)
  rw [zjq (by simp; exact ha)]
  refine AnyF.fin rfl (Um.ok (zbl (za4 (zo1 (zaa (l' := l') ?_) (fin _ _ _ _ _ _ _ _ J2 ?_)))))
  ·repeat (refine zka ?_ (fun x hx => by have := hd x hx; omega))
   exact hk
  ·constructor
   ·intro v hv hz'
    by_cases e : v = a
    ·subst e
     rw [zb4, zb4, zb4, zb4, y0k]
     exact ⟨by simp, rfl, rfl⟩
    ·rw [zae _ _ e, zae _ _ e, zae _ _ e, zae _ _ e]
     exact hR.some v hv hz'
   ·intro v hv hz'
    by_cases e : v = a
    ·subst e
     rw [hz] at hz'
     cases hz'
    ·rw [zae _ _ e, zae _ _ e]
     exact hR.none v hv hz'
end Go.Proofs.Ytfbeableaihooaa
namespace Go.Proofs.Ytfbeableaihooaa
open Go Go.Am
def tabS : Tab := [(66, [([.vs []], .tup [])]), (67, [([.vs []], .vs [])])]
theorem zx8 : TabOk Try.prog tabS := TabOk.of_run (env0_ok.tab TabOk.nil (pure := [])) (n := 60) (by kernel_rfl)
theorem ints64 : PF Try.prog 66 [.vs []] (.tup []) := zx8 _ (y05 ..) _ (y05 ..)
theorem zu1 : PF Try.prog 67 [.vs []] (.vs []) := zx8 _ (y04 _ (y05 ..)) _ (y05 ..)
end Go.Proofs.Ytfbeableaihooaa
namespace Go.Proofs.Ytfbeableaihooaa
open Go Go.Am
def srtc (l : List Int) : List Int := cps (srt l) ++ List.replicate ((srt l).length - (cps (srt l)).length) 0
structure Rs (m : Nat) (L : Nat → List Int) (i : Nat) (nz : Nat → Bool) (cv : Nat → AV) (C : Nat → List Int) (ids sps : Nat → Nat) : Prop where
 some : ∀ v, v < m → nz v = true → L v ≠ [] ∧ C v = (if v < i then srtc (L v) else L v) ∧ cv v = .ms (ids v) (sps v) 1 0 (if v < i then (cps (srt (L v))).length else (L v).length) none
 none : ∀ v, v < m → nz v = false → L v = [] ∧ cv v = (if v < i then .vs [] else .nils)
theorem Rs.start {m : Nat} {L : Nat → List Int} {nz : Nat → Bool} {cv : Nat → AV} {C : Nat → List Int} {ids sps : Nat → Nat} (h : Rw m L nz cv C ids sps) : Rs m L 0 nz cv C ids sps :=
 ⟨fun v hv hz => by rw [if_neg (y1w v), if_neg (y1w v)]; exact h.some v hv hz, fun v hv hz => by rw [if_neg (y1w v)]; exact h.none v hv hz⟩
theorem zsa {α : Type} {v i : Nat} (h : v ≠ i) (a b : α) : (if v < i + 1 then a else b) = if v < i then a else b := by
 by_cases e : v < i
 ·rw [if_pos e, if_pos (by omega)]
 ·rw [if_neg e, if_neg (by omega)]
def t45 (m : Nat) (i : Nat) : List (Nat × AV) := [(3, .ms 0 1 1 0 m (some m)), (32, .int .i64 (m : Nat)), (33, .int .i64 (i : Nat))]
set_option maxHeartbeats 2000000 in
theorem sort45 {w0 : World} {N0 : Nat} {m : Nat} {L : Nat → List Int} {i : Nat} {nz : Nat → Bool} {cv : Nat → AV} {C : Nat → List Int} {ids sps : Nat → Nat} {hp : List (Nat × Nat × AObj)} {nx ck : Nat} {Q : Exit → AS → Prop} (hm : m ≤ 256)
  (hJ : Jn m nz cv C ids sps hp nx) (hR : Rs m L i nz cv C ids sps) (hi : i < m) (hL : (L i).length ≤ 100000)
  (fin : ∀ l' hp' cv' C' sps', KeepA l' (t45 m (i + 1)) → Jn m nz cv' C' ids sps' hp' nx → Rs m L (i + 1) nz cv' C' ids sps' → Um Try.prog w0 N0 none .normal (st 51 l' hp' nx ck) [] Q) :
  Zm Try.prog w0 N0 none b42_2 (st 51 (t45 m i) hp nx ck) [] Q := by
 have ez : ∀ o : Nat, 0 + ((o : Nat) : Int).toNat * 1 = o := fun o => by simp
 have w1 : IntKind.wrap .i64 (((i : Nat) : Int) + 1) = ((i + 1 : Nat) : Int) := zam i (by omega)
 have hidx : ((i : Nat) : Int) < ((m : Nat) : Int) := y1i.2 hi
 unfold b42_2 t45
 repeat (first | refine za7 ?_ | refine za0 rfl ?_)
 refine zf5 rfl rfl (by show some (AV.bool (decide (((i : Nat) : Int) < ((m : Nat) : Int)))) = _; rw [decide_eq_true hidx]) ?_
 repeat (first | refine za7 ?_ | refine za0 rfl ?_ | refine za5 ?_ | refine za4 ?_ | refine zab ?_ | refine zaf ?_ | refine zc8 rfl ?_ | refine za3 rfl ?_ | refine zbe rfl rfl (by omega) (by omega) ?_)
 rw [ez]
 refine zas (id := 0) (sp := 1) (off := i) rfl hJ.top hJ.nx0 (hJ.get hi) ?_
 cases hz : nz i with
 | true =>
  obtain ⟨e0, e1, e2⟩ := hR.some i hi hz
  rw [if_neg (Nat.lt_irrefl i)] at e1 e2
  have hc := hJ.cell i hi hz
  rw [e1] at hc
  have hne2 : srt (L i) ≠ [] := fun e => e0 (by have := zm5 (L i); rw [e] at this; exact y1l.1 this.symm)
  have J1 := hJ.block hi hz (sps i) (srt (L i))
  have hc2 := J1.cell i hi hz
  rw [zb4, zb4] at hc2
  have J2 := J1.block hi hz (sps i) (srtc (L i))
  have J3 := J2.cset i (.ms (ids i) (sps i) 1 0 (cps (srt (L i))).length none)
  refine o_ct _ rfl (congrArg (fun v => some [v]) e2) (zgd (FT_sort (cap := none) (zs := L i) ent64 sorts64 e0 (by omega) hc)) (fun v H hF => fun _ h => absurd h y0i) fun v H hF => ?_
  obtain ⟨rfl, rfl⟩ := hF
  repeat (first | refine za0 rfl ?_ | refine za5 ?_ | refine za4 ?_ | refine za3 rfl ?_ | refine zbe rfl rfl (by omega) (by omega) ?_)
  rw [ez]
  refine zas (id := 0) (sp := 1) (off := i) rfl J1.top J1.nx0 (J1.get hi) ?_
  refine o_ct _ rfl (congrArg (fun v => some [v]) (e2.trans (by rw [← zm5 (L i)]))) (zgd (zrk (cap := none) (zs := srt (L i)) ent65 cpts65 hne2 (by rw [zm5]; omega) hc2)) (fun v H hF => fun _ h => absurd h y0i) fun v H hF => ?_
  obtain ⟨rfl, rfl⟩ := hF
  repeat (first | refine zbe rfl rfl (by omega) (by omega) ?_)
  rw [ez]
  refine zce (id := 0) (sp := 1) (off := i) rfl rfl rfl J2.top (by simp; exact hi) rfl ?_
  repeat (first | refine za0 rfl ?_ | refine za5 ?_ | refine za4 ?_ | refine zbl ?_ | refine za3 rfl ?_ | refine zb1 (op := .add) rfl rfl rfl ?_)
  rw [w1]
  refine fin _ _ _ _ _ ?_ J3 ?_
  ·exact .cons rfl (.cons rfl (.cons rfl .nil))
  ·constructor
   ·intro v hv hzv
    by_cases e : v = i
    ·subst e
     rw [zb4, zb4, zb4, if_pos (y0m v), if_pos (y0m v)]
     exact ⟨e0, rfl, rfl⟩
    ·rw [zae _ _ e, zae _ _ e, zae _ _ e, zae _ _ e, zae _ _ e]
     rw [zsa e, zsa e]
     exact hR.some v hv hzv
   ·intro v hv hzv
    have e : v ≠ i := fun e => by rw [e, hz] at hzv; cases hzv
    rw [zae _ _ e, zsa e]
    exact hR.none v hv hzv
 | false =>
  obtain ⟨e0, e2⟩ := hR.none i hi hz
  rw [if_neg (Nat.lt_irrefl i)] at e2
  have J3 := hJ.cset i (.vs [])
  refine zb9 (vs := [.nils]) (congrArg (fun v => some [v]) e2) rfl ints64 noC ?_
  repeat (first | refine za0 rfl ?_ | refine za5 ?_ | refine za4 ?_ | refine za3 rfl ?_ | refine zbe rfl rfl (by omega) (by omega) ?_)
  rw [ez]
  refine zas (id := 0) (sp := 1) (off := i) rfl hJ.top hJ.nx0 (hJ.get hi) ?_
  refine zb9 (vs := [.nils]) (congrArg (fun v => some [v]) e2) rfl zu1 noC ?_
  repeat (first | refine zbe rfl rfl (by omega) (by omega) ?_)
  rw [ez]
  refine zce (id := 0) (sp := 1) (off := i) rfl rfl rfl hJ.top (by simp; exact hi) rfl ?_
  repeat (first | refine za0 rfl ?_ | refine za5 ?_ | refine za4 ?_ | refine zbl ?_ | refine za3 rfl ?_ | refine zb1 (op := .add) rfl rfl rfl ?_)
  rw [w1]
  refine fin _ _ _ _ _ ?_ J3 ?_
  ·exact .cons rfl (.cons rfl (.cons rfl .nil))
  ·constructor
   ·intro v hv hzv
    have e : v ≠ i := fun e => by rw [e, hz] at hzv; cases hzv
    rw [zae _ _ e, zsa e, zsa e]
    exact hR.some v hv hzv
   ·intro v hv hzv
    by_cases e : v = i
    ·subst e
     rw [zb4, if_pos (y0m v)]
     exact ⟨e0, rfl⟩
    ·rw [zae _ _ e, zsa e]
     exact hR.none v hv hzv
theorem zn9 {f : Nat → AV} (h : ∀ v, hasM (f v) = false) : ∀ l : List Nat, hasM.hasML (l.map f) = false
 | [] => rfl
 | v :: l => by
  rw [y1p]
  show (hasM (f v) || hasM.hasML (l.map f)) = false
  rw [h v, zn9 h l]
  rfl
theorem zwa (E : List (Nat × Nat)) (v : Nat) : (raw E v).length ≤ E.length := by
 unfold raw
 rw [y07]
 exact y1h ..
set_option maxHeartbeats 2000000 in
theorem zgq (m : Nat) (hm : m ≤ 256) (E : List (Nat × Nat)) (hE : E.length ≤ 5000) (hb : ∀ u v, (u, v) ∈ E → u < m ∧ v < m) : PF Try.prog 42 [cG (m : Nat) (zav E)] (cN E m) := by
 have hcl : (cE (zav E)).length = E.length := by rw [zco]; exact y07 ..
 refine zb0 env0_ok fn42 [(0, .agg [.int .i64 (m : Nat), .vs (cE (zav E))])] (by show 1 ≤ 51; decide) rfl fun w0 N0 => ?_
 unfold ic42
 refine zsr rfl (zcz rfl rfl (za3 rfl (onu ?_)))
 refine zbm [] [(0, 0, [.int .i64 (m : Nat), .vs (cE (zav E))])] [(1, .vptr [.int .i64 (m : Nat), .vs (cE (zav E))])] rfl (.cons rfl rfl .nil) .nil (.cons rfl (.fptr rfl rfl) .nil) ?_
 repeat (first | refine za7 ?_ | refine za0 rfl ?_ | refine zad rfl rfl ?_ | refine zai rfl rfl rfl ?_)
 refine o_mks rfl rfl ⟨y1z m, y2m _, by omega, by decide⟩ ?_
 repeat (first | refine za7 ?_ | refine za0 rfl ?_ | refine za5 ?_ | refine za4 ?_ | refine zab ?_ | refine za3 rfl ?_ | refine zad rfl rfl ?_ | refine zai rfl rfl rfl ?_ | refine zbo rfl rfl ?_)
 have J0 : Jn m (fun _ => false) (fun _ => .nils) (fun _ => []) (fun _ => 0) (fun _ => 0) [(0, 1, AObj.cells (zf9 ((m : Nat) : Int).toNat [.nils]))] 1 := by
  refine ⟨?_, fun _ _ h => (by cases h), fun _ _ h => (by cases h), fun _ _ _ _ h => (by cases h), Nat.zero_lt_one⟩
  rw [← zsh]
  rfl
 refine zbv (fun mm S => ∃ i hp nx ck nz cv C ids sps, mm = E.length - i ∧ i ≤ E.length ∧ Jn m nz cv C ids sps hp nx ∧ Rw m (raw (E.take i)) nz cv C ids sps ∧ S = st 51 [(1, .vptr [.int .i64 (m : Nat), .vs (cE (zav E))]), (3, .ms 0 1 1 0 m (some m)), (11, .vs (cE (zav E))), (12, .int .i64 ((cE (zav E)).length : Nat)), (13, .int .i64 (i : Nat))] hp nx ck) E.length
  (zaa (.cons rfl (.cons rfl (.cons rfl (.cons rfl (.cons rfl .nil)))))) ⟨0, _, _, _, _, _, _, _, _, rfl, y12 _, J0, ⟨fun _ _ h => (by cases h), fun _ _ _ => ⟨rfl, rfl⟩⟩, rfl⟩ ?_
 rintro mm S ⟨i, hp, nx, ck, nz, cv, C, ids, sps, rfl, hi, hJ, hR, rfl⟩
 unfold b42_0
 repeat (first | refine za7 ?_ | refine za0 rfl ?_)
 refine zax rfl rfl rfl (fun h3 => ?_) fun h3 => ?_
 ·have hlt : i < E.length := by
   have h4 : ((i : Nat) : Int) < (((cE (zav E)).length : Nat) : Int) := of_decide_eq_true h3
   omega
  have w1 : IntKind.wrap .i64 (((i : Nat) : Int) + 1) = ((i + 1 : Nat) : Int) := zam i (by omega)
  have hg := zmq hlt
  obtain ⟨ha, _⟩ := hb _ _ (y0y hlt : (E[i].1, E[i].2) ∈ E)
  have hrs := fun v => raw_step hlt v
  repeat (first | refine za7 ?_ | refine za0 rfl ?_ | refine za5 ?_ | refine za4 ?_ | refine zab ?_ | refine zaf ?_ | refine zc8 rfl ?_ | refine zb2 rfl rfl rfl rfl ?_ | refine zba ?_ | refine zb7 rfl rfl (by omega) (by assumption) rfl ?_)
  refine zb3 (id := nx) (sp := ck) (off := 0) rfl rfl rfl rfl zaq rfl rfl ?_
  refine onu ?_
  have hpn := hJ.nx0
  refine reg45 (j := nx) (s5 := ck) (a := E[i].1) (b := E[i].2) (l' := [(1, .vptr [.int .i64 (m : Nat), .vs (cE (zav E))]), (3, .ms 0 1 1 0 m (some m)), (11, .vs (cE (zav E))), (12, .int .i64 ((cE (zav E)).length : Nat)), (13, .int .i64 (i : Nat))])
   ((hJ.fresh ck _).junk (j := nx) (by omega) (fun v hv hz => by have := hJ.pos v hv hz; omega) _) hR (by rw [za1, if_pos rfl]; rfl) (y0m _) (fun v hv hz => by have := hJ.pos v hv hz; omega) ha (by have := zwa (E.take i) E[i].1; rw [y2w] at this; omega) rfl rfl (.cons rfl (.cons rfl (.cons rfl (.cons rfl (.cons rfl .nil))))) (fun x hx => by
    simp only [y0j, y0i, or_false] at hx
    rcases hx with rfl | rfl | rfl | rfl | rfl <;> simp) fun hp' nx' ck' nz' cv' C' ids' sps' hJ' hR' => ?_
  repeat (first | refine za0 rfl ?_ | refine za5 ?_ | refine za3 rfl ?_ | refine zb1 (op := .add) rfl rfl rfl ?_)
  rw [w1]
  refine zay (show E.length - (i + 1) < E.length - i by omega) (zaa (.cons rfl (.cons rfl (.cons rfl (.cons rfl (.cons rfl .nil)))))) ⟨i + 1, _, _, _, _, _, _, _, _, rfl, hlt, hJ', ?_, rfl⟩
  have : raw (E.take (i + 1)) = upd (raw (E.take i)) E[i].1 (raw (E.take i) E[i].1 ++ [((E[i].2 : Nat) : Int)]) := by
   funext v
   rw [hrs v]
   unfold upd
   by_cases e : v = E[i].1
   ·rw [if_pos e.symm, if_pos e, e]
   ·rw [if_neg fun h => e h.symm, if_neg e]
  rw [this]
  exact hR'
 ·have hie : i = E.length := by
   have h4 : ¬ ((i : Nat) : Int) < (((cE (zav E)).length : Nat) : Int) := of_decide_eq_false h3
   omega
  subst hie
  rw [y1k] at hR
  repeat (first | refine za7 ?_ | refine za5 ?_ | refine za4 ?_ | refine zc7 rfl ?_ | refine zbg ?_ | refine zac ?_)
  refine zdb ?_
  repeat (first | refine za7 ?_ | refine za0 rfl ?_ | refine za5 ?_ | refine za4 ?_ | refine zab ?_ | refine zbf ?_ | refine za3 rfl ?_ | refine zbo rfl rfl ?_)
  refine zbv (fun mm S => ∃ i hp ck cv C sps, mm = m - i ∧ i ≤ m ∧ Jn m nz cv C ids sps hp nx ∧ Rs m (raw E) i nz cv C ids sps ∧ S = st 51 (t45 m i) hp nx ck) m
   (zaa (.cons rfl (.cons rfl (.cons rfl .nil)))) ⟨0, _, _, _, _, _, rfl, y12 _, hJ, Rs.start hR, rfl⟩ ?_
  rintro mm S ⟨i, hp, ck, cv, C, sps, rfl, hi, hJ, hR, rfl⟩
  by_cases hlt : i < m
  ·exact sort45 hm hJ hR hlt (by have := zwa E i; omega) fun l' hp' cv' C' sps' hk hJ' hR' => zay (show m - (i + 1) < m - i by omega) (zaa hk) ⟨i + 1, _, _, _, _, _, rfl, hlt, hJ', hR', rfl⟩
  ·have hie : i = m := by omega
   subst hie
   unfold b42_2 t45
   repeat (first | refine za7 ?_ | refine za0 rfl ?_)
   refine zd5 rfl rfl (by show some (AV.bool (decide (((i : Nat) : Int) < ((i : Nat) : Int)))) = _; rw [decide_eq_false (Int.lt_irrefl _)]) ?_
   repeat (first | refine za7 ?_ | refine za5 ?_ | refine za4 ?_ | refine zc7 rfl ?_ | refine zbg ?_ | refine zac ?_)
   refine zdb ?_
   refine zbf (za4 ?_)
   refine zbm [(some (0, 1), (List.range i).map fun v => vN (nbr E i v))] (fzJ i nz C ids sps) [(3, .ms 0 0 1 0 i (some i))] (hJ.ok _) hJ.rnF (.cons hJ.top (rnC_of fun v hv => ?_) .nil) (.cons rfl (.ms rfl) .nil) ?_
   ·have hv := y0g.1 hv
    cases hz : nz v with
    | true =>
     obtain ⟨e0, e1, e2⟩ := hR.some v hv hz
     rw [if_pos hv] at e1 e2
     rw [e2]
     have hc := zu5 (es := E) (N := i) (v := v) fun u w h => (hb u w h).2
     have hfz := hJ.fzl hv hz
     rw [e1] at hfz
     refine .fms hfz (by rw [y07, hc, y07]) (fun x hx => by obtain ⟨s, _, rfl⟩ := y0o.1 hx; rfl) ⟨(List.replicate ((srt (raw E v)).length - (cps (srt (raw E v))).length) 0).map (AV.int .i64), ?_⟩
     unfold srtc
     rw [y2t, y16, hc, ze3, y26]
     rfl
    | false =>
     obtain ⟨e0, e2⟩ := hR.none v hv hz
     rw [if_pos hv] at e2
     rw [e2]
     have hc := zu5 (es := E) (N := i) (v := v) fun u w h => (hb u w h).2
     rw [e0] at hc
     have h0 : cps (srt []) = [] := by rw [cps_eq, show srt [] = [] from by unfold srt; simp]; rfl
     have : nbr E i v = [] := List.map_eq_nil_iff.1 (hc.symm.trans h0)
     unfold vN
     rw [this]
     exact .same rfl
   refine zbm [] [(0, 0, (List.range i).map fun v => vN (nbr E i v))] [(3, cN E i)] rfl (.cons rfl ?_ .nil) .nil (.cons rfl ?_ .nil) ?_
   ·exact zn9 (fun v => rfl) _
   ·have := RenW.fms1 (live := []) (fz := [(0, 0, (List.range i).map fun v => vN (nbr E i v))]) (id := 0) (sp := 0) (len := i) (cap := some i) (vs := (List.range i).map fun v => vN (nbr E i v)) rfl (by rw [y07, y0v])
    rw [y26] at this
    exact this
   repeat (first | refine za7 ?_ | refine za0 rfl ?_ | refine za5 ?_ | refine za4 ?_ | refine zao ?_ | refine za3 rfl ?_)
   exact zak ⟨.inr rfl, _, rfl, rfl⟩
end Go.Proofs.Ytfbeableaihooaa
namespace Go.Proofs.Ytfbeableaihooaa
open Go Go.Am
theorem zug (E : List (Nat × Nat)) (m f r : Nat) : zgn E m f (r + 1) = E.foldl (rndE (r : Int)) (zgn E m f r) := by
 unfold zgn
 rw [y2k, y1t]
 rfl
theorem farR_len (E : List (Nat × Nat)) (m f : Nat) : ∀ r, (zgn E m f r).length = m := by
 have h1 : ∀ (r : Int) (E : List (Nat × Nat)) (o : List Int), (E.foldl (rndE r) o).length = o.length := by
  intro r E
  induction E with
  | nil => intro o; rfl
  | cons e E ih =>
   intro o
   rw [y2a, ih]
   unfold rndE
   split
   ·rw [y18]
   ·rfl
 intro r
 induction r with
 | zero => show ((List.replicate m (-1 : Int)).set f 0).length = m; rw [y18, y15]
 | succ r ih => rw [zug, h1, ih]
end Go.Proofs.Ytfbeableaihooaa
namespace Go.Proofs.Ytfbeableaihooaa
open Go Go.Am
theorem zoc {n v : Int} (h : zgb n v = false) : 0 ≤ v ∧ v < n := by
 unfold zgb at h
 rw [y1f, decide_eq_false_iff_not, decide_eq_false_iff_not] at h
 omega
theorem zpl {n : Int} {l : List Int} (h : zjx n l = 0) : ∀ v ∈ l, 0 ≤ v ∧ v < n := by
 unfold zjx at h
 split at h
 ·cases h
 ·rename_i ha
  intro v hv
  refine zoc ?_
  cases hb : zgb n v with
  | false => rfl
  | true => exact absurd (y2v.2 ⟨v, hv, hb⟩) ha
theorem edgE_ok {n : Int} {es : List (Int × Int)} (h : zoj n es = 0) : ∀ e ∈ es, (0 ≤ e.1 ∧ e.1 < n) ∧ 0 ≤ e.2 ∧ e.2 < n := by
 unfold zoj at h
 split at h
 ·cases h
 ·rename_i ha
  intro e he
  have : (zgb n e.1 || zgb n e.2) = false := by
   cases hb : (zgb n e.1 || zgb n e.2) with
   | false => rfl
   | true => exact absurd (y2v.2 ⟨e, he, hb⟩) ha
  rw [y1f] at this
  exact ⟨zoc this.1, zoc this.2⟩
theorem zit {n : Int} {es : List (Int × Int)} (h : zgc n es = 0) : ∃ (m : Nat) (E : List (Nat × Nat)), n = (m : Int) ∧ es = zav E ∧ m ≤ 256 ∧ E.length = es.length ∧ E.length ≤ 4096 ∧ ∀ u v, (u, v) ∈ E → u < m ∧ v < m := by
 unfold zgc at h
 split at h
 ·cases h
 split at h
 ·cases h
 split at h
 ·cases h
 rename_i h0 h1 h2
 have hb := edgE_ok h
 refine ⟨n.toNat, es.map fun e => (e.1.toNat, e.2.toNat), by omega, ?_, by omega, y07 .., by rw [y07]; omega, fun u v hm => ?_⟩
 ·unfold zav
  rw [y26]
  refine (List.map_id _).symm.trans (y24 fun e he => ?_)
  obtain ⟨⟨a, b⟩, c, d⟩ := hb e he
  show e = (((e.1.toNat : Nat) : Int), ((e.2.toNat : Nat) : Int))
  rw [Int.toNat_of_nonneg a, Int.toNat_of_nonneg c]
 ·obtain ⟨e, he, h3⟩ := y0o.1 hm
  obtain ⟨⟨a, b⟩, c, d⟩ := hb e he
  injection h3 with h3 h4
  subst h3 h4
  omega
def givV (n : Int) (es : List (Int × Int)) (l : List Int) : AV := if zi3 n es l = 0 then .tup [cN (es.map fun e => (e.1.toNat, e.2.toNat)) n.toNat, .int .i64 0] else .tup [.vs [], .int .i64 (zi3 n es l)]
theorem zgj (E : List (Nat × Nat)) : ((zav E).map fun e => (e.1.toNat, e.2.toNat)) = E := by
 unfold zav
 rw [y26]
 exact (y24 fun e _ => rfl).trans (List.map_id _)
theorem zor {m : Nat} {E : List (Nat × Nat)} {l : List Int} (h : zi3 m (zav E) l = 0) : givV m (zav E) l = .tup [cN E m, .int .i64 0] := by
 unfold givV
 rw [if_pos h, zgj]
 rfl
theorem zi4 {n : Int} {es : List (Int × Int)} {l : List Int} (h : zi3 n es l ≠ 0) : givV n es l = .tup [.vs [], .int .i64 (zi3 n es l)] := if_neg h
-- pneumatic/digraph.given
def ic33 : IC := .seq (.region [oM 2 (.box (.t 0)),
  oM 4 (.mov (.c (.nils))),
  oM 5 (.mov (.c (.int .i64 0)))] none)
 (.seq (.seq (.region [oL 8 2 2,
  oM 9 (.call (.c (.fn 40 [] [])) [(.t 8)]),
  oT 6 9] none)
 (.seq (.region [oT 10 6,
  oM 11 (.bin .neq (.t 10) (.c (.int .i64 0)))] none)
 (.cond (.t 11) (.seq (.region [oT 12 6,
  oM 4 (.mov (.c (.nils))),
  oT 5 12] none)
 (.ret))
 (.skip))))
 (.seq (.seq (.region [oL 13 2 2,
  oT 14 1,
  oM 15 (.call (.c (.fn 57 [] [])) [(.t 13), (.t 14)]),
  oT 7 15] none)
 (.seq (.region [oT 16 7,
  oM 17 (.bin .neq (.t 16) (.c (.int .i64 0)))] none)
 (.cond (.t 17) (.seq (.region [oT 18 7,
  oM 4 (.mov (.c (.nils))),
  oT 5 18] none)
 (.ret))
 (.skip))))
 (.seq (.region [oL 19 2 2,
  oM 20 (.call (.c (.fn 42 [] [])) [(.t 19)]),
  oT 4 20,
  oM 5 (.mov (.c (.int .i64 0)))] none)
 (.ret))))
theorem fn33 : env0.fn 33 = some ⟨21, ic33, [.t 4, .t 5]⟩ := by kernel_rfl
set_option maxHeartbeats 1000000 in
theorem zuz (n : Int) (es : List (Int × Int)) (l : List Int) (hl : l.length ≤ 1000000) : PF Try.prog 33 [cG n es, vsI l] (givV n es l) := by
 have p34 := ztu n es
 have p56 := zrf n es l hl
 refine zb0 env0_ok fn33 [(0, .agg [.int .i64 n, .vs (cE es)]), (1, vsI l)] (by show 2 ≤ 21; decide) rfl fun w0 N0 => ?_
 unfold ic33
 refine zsr rfl (zcz rfl rfl (za3 rfl (za3 rfl (onu ?_))))
 refine zbm [] [(0, 0, [.int .i64 n, .vs (cE es)])] [(1, vsI l), (2, .vptr [.int .i64 n, .vs (cE es)])] rfl (.cons rfl rfl .nil) .nil (.cons rfl (.same rfl) (.cons rfl (.fptr rfl rfl) .nil)) ?_
 repeat (first | refine za7 ?_ | refine za0 rfl ?_ | refine zb2 rfl rfl rfl rfl ?_)
 refine zb9 rfl rfl p34 noC ?_
 repeat (first | refine za7 ?_ | refine za0 rfl ?_ | refine za5 ?_ | refine za4 ?_ | refine za3 rfl ?_)
 refine zax rfl rfl rfl (fun h => ?_) fun h => ?_
 ·have h : ¬ zgc n es = 0 := by simpa using h
  have hg : zi3 n es l = zgc n es := if_neg h
  rw [zi4 (by rw [hg]; exact h), hg]
  repeat (first | refine za7 ?_ | refine za0 rfl ?_ | refine za5 ?_ | refine za4 ?_ | refine zc8 rfl ?_ | refine zao ?_ | refine za9 ?_ | refine za3 rfl ?_)
  exact zak ⟨.inr rfl, _, rfl, rfl⟩
 have h : zgc n es = 0 := by simpa using h
 have hg : zi3 n es l = zjx n l := if_pos h
 repeat (first | refine za7 ?_ | refine za0 rfl ?_ | refine za5 ?_ | refine za4 ?_ | refine zaf ?_ | refine zc7 rfl ?_ | refine za3 rfl ?_ | refine zb2 rfl rfl rfl rfl ?_)
 refine zb9 rfl rfl p56 noC ?_
 repeat (first | refine za7 ?_ | refine za0 rfl ?_ | refine za5 ?_ | refine za4 ?_ | refine za3 rfl ?_)
 refine zax rfl rfl rfl (fun h1 => ?_) fun h1 => ?_
 ·have h1 : ¬ zjx n l = 0 := by simpa using h1
  rw [zi4 (by rw [hg]; exact h1), hg]
  repeat (first | refine za7 ?_ | refine za0 rfl ?_ | refine za5 ?_ | refine za4 ?_ | refine zc8 rfl ?_ | refine zao ?_ | refine za9 ?_ | refine za3 rfl ?_)
  exact zak ⟨.inr rfl, _, rfl, rfl⟩
 have h1 : zjx n l = 0 := by simpa using h1
 obtain ⟨m, E, rfl, rfl, hm, _, hE, hb⟩ := zit h
 rw [zor (hg.trans h1)]
 have p45 := zgq m hm E (by omega) hb
 repeat (first | refine za7 ?_ | refine za0 rfl ?_ | refine za5 ?_ | refine za4 ?_ | refine zaf ?_ | refine zc7 rfl ?_ | refine zb2 rfl rfl rfl rfl ?_)
 refine zb9 rfl rfl p45 noC ?_
 repeat (first | refine za5 ?_ | refine za4 ?_ | refine zao ?_ | refine za3 rfl ?_)
 exact zak ⟨.inr rfl, _, rfl, rfl⟩
theorem zuy {n : Int} {es : List (Int × Int)} {l : List Int} (h : zi3 n es l = 0) : zgc n es = 0 ∧ zjx n l = 0 := by
 unfold zi3 at h
 split at h
 ·rename_i hc; exact ⟨hc, h⟩
 ·rename_i hc; exact absurd h hc
end Go.Proofs.Ytfbeableaihooaa
namespace Go.Proofs.Ytfbeableaihooaa
open Go Go.Am
-- (pneumatic/digraph.net).led$1
def ic69 : IC := .seq (.region [oM 4 (.mov (.c (.bool false)))] none)
 (.seq (.region [oN 5 1,
  oT 6 0,
  oM 7 (.idxs 1 (.t 5) (.t 6)),
  oN 8 7,
  oM 9 (.bin .geq (.t 8) (.c (.int .i64 0))),
  oT 10 9,
  ⟨(some 11), .load none (.t 1), some (10, true)⟩,
  ⟨(some 12), .mov (.t 0), some (10, true)⟩,
  ⟨(some 13), .idxs 1 (.t 11) (.t 12), some (10, true)⟩,
  ⟨(some 14), .load none (.t 13), some (10, true)⟩,
  ⟨(some 15), .load none (.t 1), some (10, true)⟩,
  ⟨(some 16), .load none (.t 2), some (10, true)⟩,
  ⟨(some 17), .idxs 1 (.t 15) (.t 16), some (10, true)⟩,
  ⟨(some 18), .load none (.t 17), some (10, true)⟩,
  ⟨(some 19), .bin .sub (.t 18) (.c (.int .i64 1)), some (10, true)⟩,
  ⟨(some 20), .bin .eql (.t 14) (.t 19), some (10, true)⟩,
  oM 21 (.pick (.t 10) (.t 20) (.c (.bool false))),
  oT 4 21] (some [[], [], [0, 1], [2], [3], [4], [5], [5], [6, 7, 5], [8, 5], [5], [5], [10, 11, 5], [12, 5], [13, 5], [9, 14, 5], [5, 15], [16, 5, 0, 1, 2, 3, 4, 5, 6, 7, 8, 9, 10, 11, 12, 13, 14, 15, 16]]))
 (.ret))
theorem fn69 : env0.fn 69 = some ⟨22, ic69, [.t 4]⟩ := by kernel_rfl
set_option maxRecDepth 100000 in
set_option maxHeartbeats 1000000 in
theorem pred67 (back : List Int) (w v : Nat) (hw : w < back.length) (hv : v < back.length) (lo : -1 ≤ gI back v) (hi : gI back v ≤ 1000000) : PF Try.prog 69 [.int .i64 (w : Nat), .vptr [vsI back], .vptr [.int .i64 (v : Nat)]] (.bool (prB back v w)) := by
 have hgw : (back.map fun z => ([.int .i64 z] : List AV))[((w : Nat) : Int).toNat]? = some [.int .i64 (gI back w)] := by rw [zei hw]; unfold gI; rw [y0c, y06 hw]; rfl
 have hgv : (back.map fun z => ([.int .i64 z] : List AV))[((v : Nat) : Int).toNat]? = some [.int .i64 (gI back v)] := by rw [zei hv]; unfold gI; rw [y0c, y06 hv]; rfl
 refine zb0 env0_ok fn69 [(0, .int .i64 (w : Nat)), (1, .vptr [vsI back]), (2, .vptr [.int .i64 (v : Nat)])] (by show 3 ≤ 22; decide) rfl fun w0 N0 => ?_
 unfold ic69 prB
 have w1 : IntKind.wrap .i64 (gI back v - 1) = gI back v - 1 := zhj _ (by omega) (by omega)
 repeat (first | refine za7 ?_ | refine za0 rfl ?_ | refine za5 ?_ | refine za4 ?_ | refine za3 rfl ?_ | refine zad rfl rfl ?_ | refine zdf env0_ok rfl rfl rfl ?_ | refine zb7 rfl rfl (by omega) (by assumption) rfl ?_)
 refine zax rfl rfl rfl (fun h1 => ?_) fun h1 => ?_
 ·have h1 : decide (gI back w ≥ 0) = true := h1
  rw [h1]
  repeat (first | refine zh4 rfl ?_ | refine za3 rfl ?_ | refine zad rfl rfl ?_ | refine zb1 (op := .sub) rfl rfl rfl ?_ | refine zb7 rfl rfl (by omega) (by assumption) rfl ?_)
  rw [w1]
  refine zax rfl rfl rfl (fun h2 => ?_) fun h2 => ?_
  ·have h2 : (gI back w == gI back v - 1) = true := h2
   rw [h2]
   repeat (first | refine za5 ?_ | refine za4 ?_ | refine zao ?_ | refine za3 rfl ?_ | refine zbk rfl rfl ?_)
   exact zak ⟨.inr rfl, _, rfl, rfl⟩
  ·have h2 : (gI back w == gI back v - 1) = false := h2
   rw [h2]
   repeat (first | refine za5 ?_ | refine za4 ?_ | refine zao ?_ | refine za3 rfl ?_ | refine zbk rfl rfl ?_)
   exact zak ⟨.inr rfl, _, rfl, rfl⟩
 ·have h1 : decide (gI back w ≥ 0) = false := h1
  rw [h1]
  repeat (first | refine za5 ?_ | refine za4 ?_ | refine zao ?_ | refine zkk rfl rfl ?_ | refine za3 rfl ?_ | refine zbb rfl rfl ?_)
  exact zak ⟨.inr rfl, _, rfl, rfl⟩
def b44_0 : IC := .seq (.region [oM 9 (.bin .lss (.t 8) (.t 7))] none)
 (.seq (.cond (.t 9) (.skip)
 (.exit 0))
 (.seq (.block 1 (.seq (.region [oT 10 8,
  oT 5 10] none)
 (.seq (.region [oT 11 1,
  oT 12 0,
  oT 13 5,
  oM 14 (.idxs 1 (.t 12) (.t 13)),
  oN 15 14,
  oM 16 (.call (.t 11) [(.t 15)])] none)
 (.cond (.t 16) (.seq (.region [oT 17 5,
  oT 4 17] none)
 (.ret))
 (.skip)))))
 (.region [oM 18 (.bin .add (.t 8) (.c (.int .i64 1))),
  oT 8 18] none)))
-- slices.IndexFunc[[]int,int]
def ic44 : IC := .seq (.region [oM 4 (.mov (.c (.int .i64 0)))] none)
 (.seq (.seq (.region [oT 6 0,
  oM 7 (.len false (.t 6)),
  oM 8 (.mov (.c (.int .i64 0)))] none)
 (.block 0 (.loop b44_0)))
 (.seq (.region [oM 4 (.mov (.c (.int .i64 (-1))))] none)
 (.ret)))
theorem fn44 : env0.fn 44 = some ⟨19, ic44, [.t 4]⟩ := by kernel_rfl
theorem zny {l : List Nat} {i : Nat} (h : i < l.length) : (l.map fun w => ([.int .i64 (w : Nat)] : List AV))[((i : Nat) : Int).toNat]? = some [.int .i64 (l[i] : Nat)] := by
 rw [y11, y0f, y06 h]
 rfl
set_option maxHeartbeats 1000000 in
theorem index66 (back : List Int) (l : List Nat) (v : Nat) (hl : l.length ≤ 1000000) (hin : ∀ w ∈ l, w < back.length) (hv : v < back.length) (lo : -1 ≤ gI back v) (hi : gI back v ≤ 1000000) (k : Nat) (hk : k < l.length) (hp : prB back v l[k] = true) (hn : ∀ i (h2 : i < k), prB back v (l[i]'(Nat.lt_trans h2 hk)) = false) :
  PF Try.prog 44 [vN l, .fn 69 [] [.vptr [vsI back], .vptr [.int .i64 (v : Nat)]]] (.int .i64 (k : Nat)) := by
 have hvl : (l.map fun w => ([.int .i64 (w : Nat)] : List AV)).length = l.length := y07 ..
 refine zb0 env0_ok fn44 [(0, vN l), (1, .fn 69 [] [.vptr [vsI back], .vptr [.int .i64 (v : Nat)]])] (by show 2 ≤ 19; decide) rfl fun w0 N0 => ?_
 unfold ic44
 repeat (first | refine za7 ?_ | refine za0 rfl ?_ | refine za5 ?_ | refine za4 ?_ | refine zab ?_ | refine za3 rfl ?_ | refine zbo rfl rfl ?_)
 refine zbv (fun mm S => ∃ i, mm = l.length - i ∧ i ≤ k ∧ S = st 19 [(0, vN l), (1, .fn 69 [] [.vptr [vsI back], .vptr [.int .i64 (v : Nat)]]), (7, .int .i64 (l.length : Nat)), (8, .int .i64 (i : Nat))] [] 0 0) l.length
  (zaa (.cons rfl (.cons rfl (.cons (by rw [← hvl]; rfl) (.cons rfl .nil))))) ⟨0, rfl, y12 _, rfl⟩ ?_
 rintro mm S ⟨i, rfl, hi2, rfl⟩
 have hlt : i < l.length := by omega
 have hg := zny hlt
 have p67 := pred67 back l[i] v (hin _ (y0y hlt)) hv lo hi
 have w1 : IntKind.wrap .i64 (((i : Nat) : Int) + 1) = ((i + 1 : Nat) : Int) := zam i (by omega)
 unfold b44_0
 repeat (first | refine za7 ?_ | refine za0 rfl ?_)
 refine zax rfl rfl rfl (fun h3 => ?_) fun h3 => ?_
 ·repeat (first | refine za7 ?_ | refine za0 rfl ?_ | refine za5 ?_ | refine za4 ?_ | refine zab ?_ | refine zaf ?_ | refine zc8 rfl ?_ | refine za3 rfl ?_ | refine zad rfl rfl ?_ | refine zb7 rfl rfl (by omega) (by assumption) rfl ?_)
  refine zp9 rfl rfl rfl p67 noC ?_
  by_cases hik : i = k
  ·subst hik
   rw [hp]
   repeat (first | refine za7 ?_ | refine za0 rfl ?_ | refine za5 ?_ | refine za4 ?_ | refine zc8 rfl ?_ | refine zao ?_ | refine za9 ?_ | refine zaj ?_ | refine za3 rfl ?_)
   exact zak ⟨.inr rfl, _, rfl, rfl⟩
  ·rw [hn i (by omega)]
   repeat (first | refine za0 rfl ?_ | refine za5 ?_ | refine za4 ?_ | refine zbl ?_ | refine zaf ?_ | refine zc7 rfl ?_ | refine za3 rfl ?_ | refine zb1 (op := .add) rfl rfl rfl ?_)
   rw [w1]
   exact zay (show l.length - (i + 1) < l.length - i by omega) (zaa (.cons rfl (.cons rfl (.cons rfl (.cons rfl .nil))))) ⟨i + 1, rfl, by omega, rfl⟩
 ·have h4 : ¬ ((i : Nat) : Int) < ((l.length : Nat) : Int) := of_decide_eq_false h3
  omega
end Go.Proofs.Ytfbeableaihooaa
namespace Go.Proofs.Ytfbeableaihooaa
open Go Go.Am
inductive Wq (hp : List (Nat × Nat × AObj)) (nx : Nat) (q : List Int) : AV → Prop
 | lit {id sp : Nat} (a : Int) (hq : q = [a]) (hl : Am.look id hp = some (sp, .cells [.int .i64 a])) (hn : id < nx) : Wq hp nx q (.ms id sp 1 0 1 (some 1))
 | gen {id sp len : Nat} (hlen : len = q.length) (hl : Am.look id hp = some (sp, .cells (q.map (AV.int .i64)))) (hn : id < nx) : Wq hp nx q (.ms id sp 1 0 len none)
theorem Wq.fresh {nx : Nat} {hp : List (Nat × Nat × AObj)} {q : List Int} {qv : AV} (h : Wq hp nx q qv) (ck : Nat) (x : AObj) : Wq ((nx, ck, x) :: hp) (nx + 1) q qv := by
 cases h with
 | lit a hq hl hn => exact .lit a hq (by rw [za8, if_neg (by omega)]; exact hl) (by omega)
 | gen hlen hl hn => exact .gen hlen (by rw [za8, if_neg (by omega)]; exact hl) (by omega)
theorem Wq.view {nx d : Nat} {S : AS} {q : List Int} {qv : AV} (h : Wq S.heap nx q qv) : S.view (d + 1) qv = vsI q := by
 cases h with
 | lit a hq hl hn => subst hq; exact zd1 [a] rfl hl
 | gen hlen hl hn => subst hlen; exact zd1 q rfl hl
end Go.Proofs.Ytfbeableaihooaa
namespace Go.Proofs.Ytfbeableaihooaa
open Go Go.Am
def Gv (b : Nat) (q : List Int) (w : AV) (hp : List (Nat × Nat × AObj)) (nx : Nat) : Prop :=
 (q = [] ∧ w = .nils) ∨ ∃ id sp, w = .ms id sp 1 0 q.length none ∧ Am.look id hp = some (sp, .cells (q.map (AV.int .i64))) ∧ b < id ∧ id < nx
section
variable {b nx : Nat} {q : List Int} {w : AV} {hp : List (Nat × Nat × AObj)}
theorem Gv.fresh (h : Gv b q w hp nx) (ck : Nat) (x : AObj) : Gv b q w ((nx, ck, x) :: hp) (nx + 1) := by
 rcases h with h | ⟨id, sp, e, hl, h1, h2⟩
 ·exact .inl h
 ·exact .inr ⟨id, sp, e, by rw [za8, if_neg (by omega)]; exact hl, h1, by omega⟩
theorem Gv.put (h : Gv b q w hp nx) {i : Nat} (hi : i ≤ b) (x : Nat × AObj) : Gv b q w (zaz i x hp) nx := by
 rcases h with h | ⟨id, sp, e, hl, h1, h2⟩
 ·exact .inl h
 ·exact .inr ⟨id, sp, e, by rw [za1, if_neg (by omega)]; exact hl, h1, h2⟩
theorem Gv.view {S : AS} {d : Nat} (h : Gv b q w S.heap nx) : S.view (d + 1) w = vsI q := by
 rcases h with ⟨rfl, rfl⟩ | ⟨id, sp, rfl, hl, _, _⟩
 ·rfl
 ·exact zd1 q rfl hl
theorem o_gapp {w0 : World} {N0 n d ck : Nat} {md : Md} {k : List Fr} {Q : Exit → AS → Prop} {l : List (Nat × AV)} {ios : List Opr} {bytes j sj : Nat} {x0 : Int} {z : List AV} {s x : Arg} (hF : Gv b q w hp nx) (hbn : b < nx) (hlen : q.length ≤ 1000000) (hs : zaw s l = some w) (hx : zaw x l = some (.ms j sj 1 0 1 (some 1))) (hj : Am.look j hp = some (sj, .cells [.int .i64 x0])) (hb : bytes ≤ 16777216)
  (go : ∀ w' hp' nx' ck', Gv b (q ++ [x0]) w' hp' nx' → b < nx' → (∀ i, i ≤ b → Am.look i hp' = Am.look i hp) → Om Try.prog w0 N0 md (KnP Try.prog w0 N0) ios (st n ((d, w') :: l) hp' nx' ck') k Q) :
  Om Try.prog w0 N0 md (KnP Try.prog w0 N0) (⟨some d, .append 1 bytes z s x, none⟩ :: ios) (st n l hp nx ck) k Q := by
 have hel : ∀ l, (st n l hp nx ck []).elems 1 (.ms j sj 1 0 1 (some 1)) = some [[.int .i64 x0]] := fun l => zcr (xs := [[.int .i64 x0]]) (ys := []) hj rfl fun x hx => by obtain rfl := y0e.1 hx; rfl
 rcases hF with ⟨rfl, rfl⟩ | ⟨id, sp, rfl, hl, h1, h2⟩
 ·have hi : iop (st n l hp nx ck) (.append 1 bytes z s x) = some (.ms nx ck 1 0 1 none, st n l ((nx, ck, .cells [.int .i64 x0]) :: hp) (nx + 1) (ck + 1)) := by
   simp only [iop, zal, hs, hx, hel]
   unfold zbi
   rw [if_neg (show ¬ [[AV.int .i64 x0]].length = 0 from y2x 0), if_pos (show [[AV.int .i64 x0]].flatten.all AV.isCell = true ∧ bytes ≤ 16777216 from ⟨rfl, hb⟩)]
   rfl
  exact zdl hi (go _ _ _ _ (.inr ⟨nx, ck, rfl, zaq, hbn, y0m _⟩) (by omega) fun i hi => by rw [za8, if_neg (by omega)]) (fun _ _ _ _ _ _ _ => rfl)
 ·refine ze4 [[.int .i64 x0]] hs hx (hel _) (fun h => Nat.noConfusion h) rfl hb hl (by rw [y07, Nat.mul_one]) (by show _ + 1 ≤ _; omega) ?_ (fun _ _ _ _ _ _ _ => rfl)
  refine go _ _ _ _ (.inr ⟨id, ck, by rw [y0k]; rfl, by rw [za1, if_pos rfl, y16]; rfl, h1, h2⟩) hbn fun i hi => by rw [za1, if_neg (by omega)]
end
-- slices.Index[[]int,int]
end Go.Proofs.Ytfbeableaihooaa
namespace Go.Proofs.Ytfbeableaihooaa
open Go Go.Am
def b47_0 : IC := .seq (.seq (.region [oN 14 10,
  oT 15 2,
  oM 16 (.bin .neq (.t 14) (.t 15))] none)
 (.cond (.t 16) (.skip)
 (.exit 0)))
 (.seq (.block 1 (.seq (.region [oT 17 0,
  oN 18 10,
  oM 19 (.idxs 1 (.t 17) (.t 18)),
  oN 20 19,
  oT 21 0,
  oN 22 10,
  oM 23 (.idxs 1 (.t 21) (.t 22)),
  oN 24 23,
  oM 25 (.mkfn 69 [] [(.t 7), (.t 10)]),
  oM 26 (.call (.c (.fn 44 [] [])) [(.t 24), (.t 25)]),
  oM 27 (.idxs 1 (.t 20) (.t 26)),
  oN 28 27,
  ⟨none, .store 1 (.t 10) (.t 28), none⟩] (some [[], [], [0, 1], [2], [], [], [4, 5], [6], [], [7, 8], [3, 9], [10], [11, 9, 0, 1, 2, 3, 4, 5, 6, 7, 8, 9, 10, 11]]))
 (.region [oT 29 9,
  oN 30 10,
  oM 31 (.bslice 1 1 [.int .i64 0] [(0, 1, (.t 30))]),
  oM 32 (.append 1 8 [.int .i64 0] (.t 29) (.t 31)),
  oT 9 32] none)))
 (.seq (.region [oN 33 10] none)
 (.region [oM 10 (.alloc [.int .i64 0]),
  ⟨none, .store 1 (.t 10) (.t 33), none⟩] none)))
-- (pneumatic/digraph.net).led
def ic47 : IC := .seq (.region [oM 7 (.box (.t 3)),
  oM 8 (.mov (.c (.nils)))] none)
 (.seq (.region [oT 11 1,
  oM 12 (.bslice 1 1 [.int .i64 0] [(0, 1, (.t 11))]),
  oT 9 12] none)
 (.seq (.seq (.region [oT 13 1,
  oM 10 (.alloc [.int .i64 0]),
  ⟨none, .store 1 (.t 10) (.t 13), none⟩] none)
 (.block 0 (.loop b47_0)))
 (.seq (.region [oT 34 9,
  oT 8 34] none)
 (.ret))))
theorem fn47 : env0.fn 47 = some ⟨35, ic47, [.t 8]⟩ := by kernel_rfl
inductive Lq (b : Nat) (hp : List (Nat × Nat × AObj)) (nx : Nat) (q : List Int) : AV → Prop
 | lit {id sp : Nat} (a : Int) (hq : q = [a]) (hl : Am.look id hp = some (sp, .cells [.int .i64 a])) (hne : id ≠ b) (hn : id < nx) : Lq b hp nx q (.ms id sp 1 0 1 (some 1))
 | gen {id sp : Nat} (hl : Am.look id hp = some (sp, .cells (q.map (AV.int .i64)))) (hne : id ≠ b) (hn : id < nx) : Lq b hp nx q (.ms id sp 1 0 q.length none)
structure Vq (v : Int) (b sb : Nat) (q : List Int) (qv : AV) (hp : List (Nat × Nat × AObj)) (nx : Nat) : Prop where
 var : Am.look b hp = some (sb, .cells [.int .i64 v])
 bn : b < nx
 lst : Lq b hp nx q qv
theorem Lq.fresh {b nx : Nat} {hp : List (Nat × Nat × AObj)} {q : List Int} {qv : AV} (h : Lq b hp nx q qv) (ck : Nat) (x : AObj) : Lq b ((nx, ck, x) :: hp) (nx + 1) q qv := by
 cases h with
 | lit a hq hl hne hn => exact .lit a hq (by rw [za8, if_neg (by omega)]; exact hl) hne (by omega)
 | gen hl hne hn => exact .gen (by rw [za8, if_neg (by omega)]; exact hl) hne (by omega)
theorem Lq.other {b b' nx : Nat} {hp : List (Nat × Nat × AObj)} {q : List Int} {qv : AV} (h : Lq b hp nx q qv) (hb : nx ≤ b') : Lq b' hp nx q qv := by
 cases h with
 | lit a hq hl hne hn => exact .lit a hq hl (by omega) hn
 | gen hl hne hn => exact .gen hl (by omega) hn
theorem Lq.put {b nx : Nat} {hp : List (Nat × Nat × AObj)} {q : List Int} {qv : AV} (h : Lq b hp nx q qv) (x : Nat × AObj) : Lq b (zaz b x hp) nx q qv := by
 cases h with
 | lit a hq hl hne hn => exact .lit a hq (by rw [za1, if_neg (fun e => hne e.symm)]; exact hl) hne hn
 | gen hl hne hn => exact .gen (by rw [za1, if_neg (fun e => hne e.symm)]; exact hl) hne hn
theorem Vq.fresh {v : Int} {b sb nx : Nat} {hp : List (Nat × Nat × AObj)} {q : List Int} {qv : AV} (h : Vq v b sb q qv hp nx) (ck : Nat) (x : AObj) : Vq v b sb q qv ((nx, ck, x) :: hp) (nx + 1) :=
 ⟨by rw [za8, if_neg (by have := h.bn; omega)]; exact h.var, by have := h.bn; omega, h.lst.fresh ck x⟩
theorem Vq.set {v : Int} {b sb nx : Nat} {hp : List (Nat × Nat × AObj)} {q : List Int} {qv : AV} (h : Vq v b sb q qv hp nx) (w : Int) : Vq w b sb q qv (zaz b (sb, .cells [.int .i64 w]) hp) nx :=
 ⟨by rw [za1, if_pos rfl], h.bn, h.lst.put _⟩
theorem Lq.view {b nx d : Nat} {S : AS} {q : List Int} {qv : AV} (h : Lq b S.heap nx q qv) : S.view (d + 1) qv = vsI q := by
 cases h with
 | lit a hq hl hne hn => subst hq; exact zd1 [a] rfl hl
 | gen hl hne hn => exact zd1 q rfl hl
theorem o_lapp {w0 : World} {N0 n d nx ck : Nat} {k : List Fr} {Q : Exit → AS → Prop} {l : List (Nat × AV)} {ios : List Opr} {v : Int} {b sb : Nat} {q : List Int} {qv : AV} {hp : List (Nat × Nat × AObj)} {bytes j sj : Nat} {x0 : Int} {z : List AV} {s x : Arg} (hF : Vq v b sb q qv hp nx) (hlen : q.length ≤ 1000000) (hs : zaw s l = some qv) (hx : zaw x l = some (.ms j sj 1 0 1 (some 1))) (hj : Am.look j hp = some (sj, .cells [.int .i64 x0])) (hb : bytes ≤ 16777216)
  (go : ∀ qv' hp' nx' ck', Vq v b sb (q ++ [x0]) qv' hp' nx' → Om Try.prog w0 N0 none (KnP Try.prog w0 N0) ios (st n ((d, qv') :: l) hp' nx' ck') k Q) :
  Om Try.prog w0 N0 none (KnP Try.prog w0 N0) (⟨some d, .append 1 bytes z s x, none⟩ :: ios) (st n l hp nx ck) k Q := by
 have hel : (st n l hp nx ck []).elems 1 (.ms j sj 1 0 1 (some 1)) = some [[.int .i64 x0]] := zcr (xs := [[.int .i64 x0]]) (ys := []) hj rfl fun x hx => by obtain rfl := y0e.1 hx; rfl
 have hbn := hF.bn
 cases hF.lst with
 | @lit id sp a hq hl h1 hn =>
  subst hq
  have hi : iop (st n l hp nx ck) (.append 1 bytes z s x) = some (.ms nx ck 1 0 2 none, st n l ((nx, ck, .cells ([a, x0].map (AV.int .i64))) :: hp) (nx + 1) (ck + 1)) := by
   simp only [iop, zal, hs, hx, hel]
   unfold zbi
   rw [if_neg (show ¬ [[AV.int .i64 x0]].length = 0 from y2x 0), if_pos (show [[AV.int .i64 x0]].flatten.all AV.isCell = true ∧ bytes ≤ 16777216 from ⟨rfl, hb⟩)]
   simp only [show (st n l hp nx ck []).heap = hp from rfl, hl]
   rw [if_pos (show True ∧ True ∧ 0 + 1 * 1 ≤ ([AV.int .i64 a]).length ∧ 1 + [[AV.int .i64 x0]].length ≤ 1048576 from ⟨trivial, trivial, y0b 1, (by show 2 ≤ 1048576; decide)⟩), if_neg (show ¬ 1 + [[AV.int .i64 x0]].length ≤ 1 from (by show ¬ 2 ≤ 1; decide))]
   rfl
  refine zdl hi (go _ _ _ _ ⟨by rw [za8, if_neg (by omega)]; exact hF.var, by omega, ?_⟩) (fun _ _ _ _ _ _ _ => rfl)
  exact .gen (q := [a, x0]) zaq (by omega) (by omega)
 | @gen id sp hl h1 hn =>
  refine ze4 [[.int .i64 x0]] hs hx hel (fun h => Nat.noConfusion h) rfl hb hl (by rw [y07, Nat.mul_one]) (by show _ + 1 ≤ _; omega) ?_ (fun _ _ _ _ _ _ _ => rfl)
  refine go _ _ _ _ ⟨by rw [za1, if_neg h1]; exact hF.var, hbn, ?_⟩
  have e3 : q.map (AV.int .i64) ++ [[AV.int .i64 x0]].flatten = (q ++ [x0]).map (AV.int .i64) := by rw [y16]; rfl
  rw [e3]
  have := Lq.gen (b := b) (hp := zaz id (ck, .cells ((q ++ [x0]).map (AV.int .i64))) hp) (nx := nx) (q := q ++ [x0]) (id := id) (sp := ck) (by rw [za1, if_pos rfl]) h1 hn
  rw [y0k] at this
  exact this
theorem view_cap {S : AS} {b sb d : Nat} {v : Int} (h : Am.look b S.heap = some (sb, .cells [.int .i64 v])) (hn : b < S.next) : S.view (d + 1) (.mptr b sb 0) = .vptr [.int .i64 v] := by
 simp only [AS.view, ze8 (off := 0) (v := .int .i64 v) (ws := []) h hn rfl]
 cases d <;> rfl
def iL (l : List Nat) : List Int := l.map fun w => ((w : Nat) : Int)
set_option maxHeartbeats 4000000 in
theorem led49 (m : Nat) (hm : m ≤ 256) (E : List (Nat × Nat)) (hb : ∀ u v, (u, v) ∈ E → u < m ∧ v < m) (f t : Nat) (hf : f < m) (ht : t < m) (back : List Int) (hL : Lab (rvE E) m t back) (h0 : 0 ≤ gI back f) :
  PF Try.prog 47 [cN E m, .int .i64 (f : Nat), .int .i64 (t : Nat), vsI back] (vsI (iL (f :: zhx E m back (gI back f).toNat f))) := by
 have hbt : ∀ v, gI back v < m := zvm hL.len hL.down
 have hlen : ((List.range m).map fun v => ([vN (nbr E m v)] : List AV)).length = m := by rw [y07, y0v]
 refine zb0 env0_ok fn47 [(0, cN E m), (1, .int .i64 (f : Nat)), (2, .int .i64 (t : Nat)), (3, vsI back)] (by show 4 ≤ 35; decide) rfl fun w0 N0 => ?_
 unfold ic47
 refine zsr rfl (zcz rfl rfl (za3 rfl (onu ?_)))
 refine zbm [] [(0, 0, [vsI back])] [(0, cN E m), (1, .int .i64 (f : Nat)), (2, .int .i64 (t : Nat)), (7, .vptr [vsI back])] rfl (.cons rfl rfl .nil) .nil (.cons rfl (.same rfl) (.cons rfl (.same rfl) (.cons rfl (.same rfl) (.cons rfl (.fptr rfl rfl) .nil)))) ?_
 repeat (first | refine za7 ?_ | refine za0 rfl ?_ | refine za5 ?_ | refine za4 ?_ | refine zab ?_ | refine za3 rfl ?_ | refine zb3 rfl rfl rfl rfl rfl rfl rfl ?_ | refine zba ?_ | refine zb6 rfl rfl ?_)
 have hK : (iL (f :: zhx E m back (gI back f).toNat f)).length ≤ 257 := by
  have := hbt f
  unfold iL
  rw [y07, y0l, znr]
  omega
 generalize hT : iL (f :: zhx E m back (gI back f).toNat f) = T at *
 refine zbv (fun mm S => ∃ v q qv b sb hp nx ck, mm = (gI back v).toNat ∧ v < m ∧ 0 ≤ gI back v ∧ q ++ iL (zhx E m back (gI back v).toNat v) = T ∧ Vq (v : Nat) b sb q qv hp nx ∧ S = st 35 [(0, cN E m), (2, .int .i64 (t : Nat)), (7, .vptr [vsI back]), (9, qv), (10, .mptr b sb 0)] hp nx ck) (gI back f).toNat
  (zaa (.cons rfl (.cons rfl (.cons rfl (.cons rfl (.cons rfl .nil)))))) ⟨f, [(f : Nat)], .ms 0 1 1 0 1 (some 1), 1, 2, _, _, _, rfl, hf, h0, hT, ⟨rfl, y0m 1, .lit _ rfl rfl (by decide) (by decide)⟩, rfl⟩ ?_
 rintro mm S ⟨v, q, qv, b, sb, hp, nx, ck, rfl, hv, h1, hq, hF, rfl⟩
 have hql : q.length ≤ 257 := by
  rw [← hq, y0k] at hK
  omega
 unfold b47_0
 repeat (first | refine za7 ?_ | refine za0 rfl ?_)
 refine zas (id := b) (sp := sb) (off := 0) rfl hF.var hF.bn rfl ?_
 repeat (first | refine za3 rfl ?_)
 refine zax rfl rfl rfl (fun h3 => ?_) fun h3 => ?_
 ·have hne : ¬ ((v : Nat) : Int) = ((t : Nat) : Int) := by simpa using h3
  have hpos : 0 < gI back v := by
   have : gI back v ≠ 0 := fun e => hne (by rw [hL.root v e])
   omega
  obtain ⟨hfi, hed, hwm, hbw⟩ := nxt_ok hL hb hpos
  obtain ⟨kk, hkl, hke, hkp, hkn⟩ := zqa hfi
  have hrs : zhx E m back (gI back v).toNat v = nxt E m back v :: zhx E m back (gI back (nxt E m back v)).toNat (nxt E m back v) := by
   obtain ⟨k, hk⟩ : ∃ k : Nat, gI back v = ((k + 1 : Nat) : Int) := ⟨(gI back v).toNat - 1, by omega⟩
   have e1 : (gI back v).toNat = k + 1 := by omega
   have e2 : (gI back (nxt E m back v)).toNat = k := by omega
   rw [e1, e2, zhx]
  have hnl : (nbr E m v).length ≤ m := by
   unfold nbr
   exact y0s (y1h ..) (by rw [y0v]; exact y0b _)
  have p66 := index66 back (nbr E m v) v (by omega) (fun w hw => by rw [hL.len]; exact (hb _ _ ((zcy fun u v h => (hb u v h).2).1 hw)).2) (by rw [hL.len]; exact hv) (hL.low v) (by have := hbt v; omega) kk hkl (by rw [hke]; exact hkp) hkn
  have hgN : ((List.range m).map fun v => ([vN (nbr E m v)] : List AV))[((v : Nat) : Int).toNat]? = some [vN (nbr E m v)] := by
   rw [y11, y0f, y2j hv]
   rfl
  have hgk := zny hkl
  rw [hke] at hgk
  generalize nxt E m back v = w at *
  generalize nbr E m v = l at *
  have hldb : Nat.beq b b = true := y25 b
  have hvw : ∀ L : List (Nat × AV), [vN l, .fn 69 [] [.vptr [vsI back], .mptr b sb 0]].map ((st 35 L hp nx ck []).view VD) = [vN l, .fn 69 [] [.vptr [vsI back], .vptr [.int .i64 (v : Nat)]]] := fun L => by
   show [vN l, AV.fn 69 [] [.vptr [vsI back], (st 35 L hp nx ck []).view 3 (.mptr b sb 0)]] = _
   rw [view_cap hF.var hF.bn]
  repeat (first | refine za7 ?_ | refine za5 ?_ | refine za4 ?_ | refine zab ?_ | refine zaf ?_ | refine zc8 rfl ?_)
  refine z_cut env0_ok 12 [(44, [vN l, .fn 69 [] [.vptr [vsI back], .vptr [.int .i64 (v : Nat)]]], .int .i64 (kk : Nat))] (fun x hx => by
   obtain rfl := y0e.1 hx
   exact p66) (fun f => Nat.beq f 44) (fun i => Nat.beq i b) (fun i => !(Nat.beq i b)) (fun i h1 h2 => by rw [h1] at h2; cases h2) rfl rfl rfl rfl ?_
  show Om _ _ _ _ _ [_, _, _, _, _, _, _, _, _, _, _, _] _ _ _
  refine za3 rfl ?_
  refine zas (id := b) (sp := sb) (off := 0) rfl hF.var hF.bn rfl ?_ (zs5 rfl hldb)
  refine zb7 rfl rfl (y1z v) hgN rfl ?_
  refine zad rfl rfl ?_
  refine za3 rfl ?_
  refine zas (id := b) (sp := sb) (off := 0) rfl hF.var hF.bn rfl ?_ (zs5 rfl hldb)
  refine zb7 rfl rfl (y1z v) hgN rfl ?_
  refine zad rfl rfl ?_
  refine ze5 rfl rfl ?_
  refine zb9 rfl (hvw _) ze0 (fun _ => rfl) ?_
  refine zb7 rfl rfl (y1z kk) hgk rfl ?_
  refine zad rfl rfl ?_
  refine za5 (zak ⟨rfl, fun rd => ?_⟩)
  refine AnyF.one 12 rfl (zmi (i := 12) rfl (zh8 (id := b) (sp := sb) (off := 0) rfl rfl rfl rfl hF.var rfl rfl) ?_)
  have hF2 : Vq (w : Nat) b sb q qv (zaz b (sb, .cells [.int .i64 (w : Nat)]) hp) nx := hF.set _
  refine AnyF.fin rfl (Um.ok (za4 ?_))
  repeat (first | refine za0 rfl ?_ | refine za3 rfl ?_)
  refine zas (id := b) (sp := sb) (off := 0) rfl hF2.var hF2.bn rfl ?_
  repeat (first | refine zb6 rfl rfl ?_)
  have hF3 := hF2.fresh ck (.cells [.int .i64 (w : Nat)])
  refine o_lapp hF3 (by omega) rfl rfl zaq (by decide) fun qv' hp' nx' ck' hF4 => ?_
  repeat (first | refine za7 ?_ | refine za0 rfl ?_ | refine za5 ?_ | refine za4 ?_ | refine zbl ?_ | refine za3 rfl ?_)
  refine zas (id := b) (sp := sb) (off := 0) rfl hF4.var hF4.bn rfl ?_
  repeat (first | refine za0 rfl ?_ | refine za5 ?_ | refine za4 ?_ | refine zba ?_)
  refine zb3 (id := nx') (sp := ck') (off := 0) rfl rfl rfl rfl zaq rfl rfl ?_
  repeat (first | refine za5 ?_)
  refine zay (show (gI back w).toNat < (gI back v).toNat by omega) (zaa (.cons rfl (.cons rfl (.cons rfl (.cons rfl (.cons rfl .nil)))))) ⟨w, q ++ [((w : Nat) : Int)], qv', nx', ck', _, _, _, rfl, hwm, by omega, ?_, ⟨by rw [za1, if_pos rfl]; rfl, y0m _, ?_⟩, rfl⟩
  ·rw [← hq, hrs, y19]
   rfl
  ·exact ((hF4.lst.other (y0b _)).fresh ck' (.cells [.int .i64 0])).put _
 ·have hvt : ((v : Nat) : Int) = ((t : Nat) : Int) := by simpa using h3
  have hv2 : v = t := Int.ofNat_inj.1 hvt
  subst hv2
  rw [hL.zero] at hq
  have hq : q = T := by simpa [zhx, iL] using hq
  repeat (first | refine za5 ?_ | refine za4 ?_ | refine zc7 rfl ?_ | refine zbg ?_ | refine zac ?_)
  refine zdb ?_
  repeat (first | refine za7 ?_ | refine za0 rfl ?_ | refine za5 ?_ | refine za4 ?_ | refine zao ?_ | refine zbf ?_ | refine za3 rfl ?_)
  refine zak ⟨.inr rfl, _, rfl, ?_⟩
  rw [← hq]
  exact hF.lst.view
end Go.Proofs.Ytfbeableaihooaa
namespace Go.Proofs.Ytfbeableaihooaa
open Go Go.Am
-- (pneumatic/digraph.net).sorted
theorem zlv (E : List (Nat × Nat)) (m v : Nat) : (nbr E m v).length ≤ m := by
 unfold nbr
 exact y0s (y1h ..) (by rw [y0v]; exact y0b _)
theorem ztq {E : List (Nat × Nat)} {m v : Nat} (hv : v < m) : ((List.range m).map fun v => ([vN (nbr E m v)] : List AV))[((v : Nat) : Int).toNat]? = some [vN (nbr E m v)] := by
 rw [y11, y0f, y2j hv]
 rfl
theorem zv0 (l : List Nat) : (iL l).length = l.length := y07 ..
theorem iL_snoc (l : List Nat) (v : Nat) : iL (l ++ [v]) = iL l ++ [((v : Nat) : Int)] := by
 unfold iL
 rw [y16]
 rfl
end Go.Proofs.Ytfbeableaihooaa
