/-
  THE SEARCH INTO THE DEPTH: the closure visit walked.; THE SEARCH IN THE OTHER DIRECTION: the closure collect walked.; REGIONS IN ALL THEIR ORDERS BY AN INVARIANT.; COMPONENTS: the region that makes the two lists of neighbours.; THE EXAMPLES OF THE CHAPTER.; THE RANGE over the closed vertices, from the last one on.; THE LAW's CALLEES: Reach, SameInts.; REVERSED GRAPHS: reversed and Reverse walked; 
-/
import Derived.Test.YtfbeableaihooaaVX2
namespace Go.Proofs.Ytfbeableaihooaa
open Go Go.Am
def unF (s : List Bool) : Nat := (s.filter fun b => !b).length
theorem zm8 : ∀ {s : List Bool} {v : Nat}, v < s.length → gB s v = false → unF (s.set v true) + 1 = unF s
 | [], _, h, _ => absurd h (y1w _)
 | x :: s, 0, _, h => by
  have hx : x = false := h
  subst hx
  rfl
 | x :: s, v + 1, hv, h => by
  have ih := zm8 (s := s) (v := v) (by simpa using hv) h
  unfold unF at ih ⊢
  rw [List.set_cons_succ, y14, y14]
  cases x with
  | true => exact ih
  | false =>
   rw [if_pos (show (!false) = true from rfl), if_pos (show (!false) = true from rfl), y0l, y0l]
   omega
theorem zxa : ∀ (D : List Nat) (s : List Bool), D.Nodup → (∀ d ∈ D, d < s.length ∧ gB s d = false) → unF (mrk s D) + D.length = unF s
 | [], _, _, _ => rfl
 | d :: D, s, hn, h => by
  obtain ⟨h1, h2⟩ := y21.1 hn
  obtain ⟨a, b⟩ := h d (y05 ..)
  have ih := zxa D (s.set d true) h2 fun x hx => by
   obtain ⟨c, e⟩ := h x (y04 _ hx)
   refine ⟨by rw [y18]; exact c, ?_⟩
   rw [zuo a, e, y2y]
   exact beq_eq_false_iff_ne.2 fun e => h1 (e ▸ hx)
  have := zm8 a b
  show unF (mrk (s.set d true) D) + (D.length + 1) = _
  omega
theorem zxg {E : List (Nat × Nat)} {m : Nat} (hb : ∀ u v, (u, v) ∈ E → u < m ∧ v < m) {s : List Bool} {l D : List Nat} (h : Vis E m s l D) (hs : s.length = m) (hl : ∀ y ∈ l, y < m) : unF (mrk s D) + D.length = unF s := by
 have P := zxf hb h hs hl
 exact zxa D s P.nd fun d hd => ⟨by rw [hs]; exact P.lt d hd, P.new d hd⟩
theorem gB_get {s : List Bool} {v : Nat} (h : v < s.length) : (s.map AV.bool)[v]? = some (.bool (gB s v)) := by
 unfold gB
 rw [y0f, y0c, y06 h]
 rfl
theorem zvv (v : Nat) : ∀ (D : List Nat) (s : List Bool), mrk (s.set v true) D = (mrk s D).set v true
 | [], _ => rfl
 | d :: D, s => by
  show mrk ((s.set v true).set d true) D = (mrk (s.set d true) D).set v true
  rw [← zvv v D]
  congr 1
  by_cases e : v = d
  ·rw [e]
  ·exact List.set_comm _ _ e
theorem mrk_snoc (s : List Bool) (D : List Nat) (v : Nat) : mrk s (D ++ [v]) = mrk (s.set v true) D := by
 rw [zp7, zvv]
 rfl
theorem zxe {E : List (Nat × Nat)} {m : Nat} {s : List Bool} {l D : List Nat} (h : Vis E m s l D) : l = [] → D = [] := by
 cases h with
 | nil => exact fun _ => rfl
 | skip => exact fun e => by simp at e
 | go => exact fun e => by simp at e
theorem zrc {l : List Nat} {x y : Nat} (e : l ++ [x] = [y]) : l = [] ∧ x = y := by
 cases l with
 | nil => injection e with e; exact ⟨rfl, e⟩
 | cons a l =>
  injection e with _ e
  simp at e
theorem vis_one {E : List (Nat × Nat)} {m : Nat} {s : List Bool} {l D : List Nat} {y : Nat} (h : Vis E m s l D) : l = [y] → (D = [] ∧ gB s y = true) ∨ ∃ D', D = D' ++ [y] ∧ gB s y = false ∧ Vis E m (s.set y true) (nbr E m y) D' := by
 cases h with
 | nil => exact fun e => by cases e
 | skip h hx =>
  intro e
  obtain ⟨e1, e2⟩ := zrc e
  obtain rfl := zxe h e1
  subst e2
  exact .inl ⟨rfl, hx⟩
 | go h hx h' =>
  intro e
  obtain ⟨e1, e2⟩ := zrc e
  obtain rfl := zxe h e1
  subst e2
  exact .inr ⟨_, rfl, hx, h'⟩
theorem Vis.snoc {E : List (Nat × Nat)} {m : Nat} {s : List Bool} {l D D2 : List Nat} {y : Nat} (h : Vis E m s l D) (h2 : Vis E m (mrk s D) [y] D2) : Vis E m s (l ++ [y]) (D ++ D2) := by
 rcases vis_one h2 rfl with ⟨rfl, hg⟩ | ⟨D', rfl, hg, h3⟩
 ·rw [y0r]
  exact .skip h hg
 ·exact .go h hg h3
theorem iL_app (a b : List Nat) : iL (a ++ b) = iL a ++ iL b := y16 ..
structure VM (E : List (Nat × Nat)) (m sa ss sw sc : Nat) (sn : List Bool) (q : List Int) (hp : List (Nat × Nat × AObj)) (nx : Nat) : Prop where
 ha : Am.look 0 hp = some (sa, .cells [.ms 1 ss 1 0 m (some m)])
 hs : Am.look 1 hp = some (ss, .cells (sn.map AV.bool))
 hw : Am.look 2 hp = some (sw, .cells [.fn 63 [] [.mptr 0 sa 0, .vptr [cN E m], .mptr 2 sw 0, .mptr 3 sc 0]])
 hc : ∃ qv, Am.look 3 hp = some (sc, .cells [qv]) ∧ Gv 3 q qv hp nx
 nx : 3 < nx
theorem VM.set {E : List (Nat × Nat)} {m sa ss sw sc nx : Nat} {sn : List Bool} {q : List Int} {hp : List (Nat × Nat × AObj)} (h : VM E m sa ss sw sc sn q hp nx) (v : Nat) : VM E m sa ss sw sc (sn.set v true) q (zaz 1 (ss, .cells ((sn.map AV.bool).set v (.bool true))) hp) nx := by
 obtain ⟨qv, hc, hG⟩ := h.hc
 exact ⟨by rw [za1, if_neg (by decide)]; exact h.ha, by rw [za1, if_pos rfl, ← List.map_set], by rw [za1, if_neg (by decide)]; exact h.hw, ⟨qv, by rw [za1, if_neg (by decide)]; exact hc, hG.put (by decide) _⟩, h.nx⟩
theorem Gv.cell {b nx : Nat} {q : List Int} {w : AV} {hp : List (Nat × Nat × AObj)} (h : Gv b q w hp nx) : w.isCell = true ∧ w.cells? = some [w] := by
 rcases h with ⟨rfl, rfl⟩ | ⟨id, sp, rfl, _, _, _⟩
 ·exact ⟨rfl, rfl⟩
 ·exact ⟨rfl, rfl⟩
def b63_0 : IC := .seq (.region [oM 21 (.bin .lss (.t 20) (.t 19))] none)
 (.seq (.cond (.t 21) (.skip)
 (.exit 0))
 (.seq (.block 1 (.seq (.region [oM 22 (.idxs 1 (.t 18) (.t 20)),
  oN 23 22,
  oT 7 23] none)
 (.region [oN 24 3,
  oT 25 7,
  oM 26 (.call (.t 24) [(.t 25)])] none)))
 (.region [oM 27 (.bin .add (.t 20) (.c (.int .i64 1))),
  oT 20 27] none)))
-- pneumatic/digraph.components$1
def ic63 : IC := .seq (.seq (.region [oN 8 1,
  oT 9 0,
  oM 10 (.idxs 1 (.t 8) (.t 9)),
  oN 11 10] none)
 (.cond (.t 11) (.ret)
 (.skip)))
 (.seq (.region [oN 12 1,
  oT 13 0,
  oM 14 (.idxs 1 (.t 12) (.t 13)),
  ⟨none, .store 1 (.t 14) (.c (.bool true)), none⟩] none)
 (.seq (.seq (.region [oN 15 2,
  oT 16 0,
  oM 17 (.idxs 1 (.t 15) (.t 16)),
  oN 18 17,
  oM 19 (.len false (.t 18)),
  oM 20 (.mov (.c (.int .i64 0)))] none)
 (.block 0 (.loop b63_0)))
 (.region [oN 28 4,
  oT 29 0,
  oM 30 (.bslice 1 1 [.int .i64 0] [(0, 1, (.t 29))]),
  oM 31 (.append 1 8 [.int .i64 0] (.t 28) (.t 30)),
  ⟨none, .store 1 (.t 4) (.t 31), none⟩] none)))
theorem fn63 : env0.fn 63 = some ⟨32, ic63, []⟩ := by kernel_rfl
set_option maxHeartbeats 4000000 in
theorem visit60 (m : Nat) (hm : m ≤ 256) (E : List (Nat × Nat)) (hb : ∀ u v, (u, v) ∈ E → u < m ∧ v < m) (w0 : World) (N0 sa ss sw sc : Nat) : ∀ (k : Nat) (sn : List Bool) (q : List Int) (v : Nat) (H : HS), unF sn < k → sn.length = m → v < m → q.length + unF sn ≤ m → VM E m sa ss sw sc sn q H.heap H.next →
  FT Try.prog w0 N0 63 [.int .i64 (v : Nat), .mptr 0 sa 0, .vptr [cN E m], .mptr 2 sw 0, .mptr 3 sc 0] H fun _ H' => ∃ D, Vis E m sn [v] D ∧ VM E m sa ss sw sc (mrk sn D) (q ++ iL D) H'.heap H'.next := by
 have ez : ∀ o : Nat, 0 + ((o : Nat) : Int).toNat * 1 = o := fun o => by simp
 have hb2 := fun u v h => (hb u v h).2
 intro k
 induction k with
 | zero => exact fun sn q v H h => absurd h (y1w _)
 | succ k ih =>
 intro sn q v H hun hsn hv hq hM
 refine zfy env0_ok fn63 [(0, .int .i64 (v : Nat)), (1, .mptr 0 sa 0), (2, .vptr [cN E m]), (3, .mptr 2 sw 0), (4, .mptr 3 sc 0)] (by show 5 ≤ 32; decide) rfl ?_
 obtain ⟨hp, nx, ck⟩ := H
 have hM : VM E m sa ss sw sc sn q hp nx := hM
 have hnx := hM.nx
 show Zm _ _ _ _ _ (st 32 _ hp nx ck) _ _
 unfold ic63
 repeat (first | refine za7 ?_ | refine za0 rfl ?_)
 refine zas (id := 0) (sp := sa) (off := 0) rfl hM.ha (by omega) rfl ?_
 repeat (first | refine za3 rfl ?_ | refine zbe rfl rfl (by omega) (by omega) ?_)
 rw [ez]
 refine zas (id := 1) (sp := ss) (off := v) rfl hM.hs (by omega) (gB_get (by omega)) ?_
 cases hg : gB sn v with
 | true =>
  repeat (first | refine za5 ?_ | refine za4 ?_ | refine zc8 rfl ?_ | refine zao ?_ | refine za9 ?_)
  refine zak ⟨.inr rfl, _, rfl, [], .skip (l := []) (.nil sn) hg, ?_⟩
  rw [show q ++ iL [] = q from y0r q]
  exact hM
 | false =>
  have hun2 := zm8 (by rw [hsn]; exact hv) hg
  have hM2 := hM.set v
  have hgN := ztq (E := E) hv
  have hin : ∀ w ∈ nbr E m v, w < m := fun w hw => hb2 _ _ ((zcy hb2).1 hw)
  have hnl := zlv E m v
  repeat (first | refine za7 ?_ | refine za0 rfl ?_ | refine za5 ?_ | refine za4 ?_ | refine zaf ?_ | refine zc7 rfl ?_)
  refine zas (id := 0) (sp := sa) (off := 0) rfl hM.ha (by omega) rfl ?_
  repeat (first | refine za3 rfl ?_ | refine zbe rfl rfl (by omega) (by omega) ?_)
  rw [ez]
  refine zce (id := 1) (sp := ss) (off := v) rfl rfl rfl hM.hs (by simp; omega) rfl ?_
  repeat (first | refine za7 ?_ | refine za0 rfl ?_ | refine za5 ?_ | refine za4 ?_ | refine zab ?_ | refine za3 rfl ?_ | refine zad rfl rfl ?_ | refine zbo rfl rfl ?_ | refine zb7 rfl rfl (by omega) (by assumption) rfl ?_)
  have hvis : ∀ D, Vis E m (sn.set v true) (nbr E m v) D → Vis E m sn [v] (D ++ [v]) := fun D h => .go (l := []) (D := []) (.nil sn) hg h
  generalize hl : nbr E m v = l at *
  refine zbv (fun mm S => ∃ j D hp nx ck, mm = l.length - j ∧ j ≤ l.length ∧ Vis E m (sn.set v true) (l.take j) D ∧ VM E m sa ss sw sc (mrk (sn.set v true) D) (q ++ iL D) hp nx ∧ S = st 32 [(0, .int .i64 (v : Nat)), (3, .mptr 2 sw 0), (4, .mptr 3 sc 0), (18, vN l), (19, .int .i64 ((l.map fun w => ([.int .i64 (w : Nat)] : List AV)).length : Nat)), (20, .int .i64 (j : Nat))] hp nx ck) l.length
   (zaa (.cons rfl (.cons rfl (.cons rfl (.cons rfl (.cons rfl (.cons rfl .nil))))))) ⟨0, [], _, _, _, rfl, y12 _, .nil _, by rw [show q ++ iL [] = q from y0r q]; exact hM2, rfl⟩ ?_
  rintro mm S ⟨j, D, hp, nx, ck, rfl, hj, hV, hM, rfl⟩
  have hnx := hM.nx
  have hvu := zxg hb hV (by rw [y18, hsn]) fun y hy => hin y (y2n hy)
  have hml : (mrk (sn.set v true) D).length = m := by rw [zji, y18, hsn]
  have hqd : (q ++ iL D).length = q.length + D.length := by rw [y0k, zv0]
  unfold b63_0
  repeat (first | refine za7 ?_ | refine za0 rfl ?_)
  refine zax rfl rfl rfl (fun h4 => ?_) fun h4 => ?_
  ·have hlt2 : j < l.length := by
    have h5 : ((j : Nat) : Int) < (((l.map fun w => ([.int .i64 (w : Nat)] : List AV)).length : Nat) : Int) := of_decide_eq_true h4
    rw [y07] at h5
    exact y1i.1 h5
   have w2 : IntKind.wrap .i64 (((j : Nat) : Int) + 1) = ((j + 1 : Nat) : Int) := zam j (by omega)
   have hgv := zny hlt2
   have hym := hin l[j] (y0y hlt2)
   have hts : l.take (j + 1) = l.take j ++ [l[j]] := by rw [y1x, y06 hlt2]; rfl
   generalize l[j] = y at *
   have hft := ih (mrk (sn.set v true) D) (q ++ iL D) y ⟨hp, nx, ck⟩ (by omega) hml hym (by omega) hM
   repeat (first | refine za7 ?_ | refine za0 rfl ?_ | refine za5 ?_ | refine za4 ?_ | refine zab ?_ | refine zaf ?_ | refine zc8 rfl ?_ | refine za3 rfl ?_ | refine zad rfl rfl ?_ | refine zb7 rfl rfl (by omega) (by assumption) rfl ?_)
   refine zas (id := 2) (sp := sw) (off := 0) rfl hM.hw (by omega) rfl ?_
   repeat (first | refine za3 rfl ?_)
   refine o_ct _ rfl rfl (zmy hft) (fun v H _ m hm => absurd hm y0i) fun r H' hF => ?_
   obtain ⟨D2, hV2, hM2⟩ := hF
   obtain ⟨hp', nx', ck'⟩ := H'
   show Om _ _ _ _ _ _ (st 32 _ hp' nx' ck') _ _
   have hV3 : Vis E m (sn.set v true) (l.take (j + 1)) (D ++ D2) := by rw [hts]; exact hV.snoc hV2
   repeat (first | refine za0 rfl ?_ | refine za5 ?_ | refine za4 ?_ | refine zbl ?_ | refine za3 rfl ?_ | refine zb1 (op := .add) rfl rfl rfl ?_)
   rw [w2]
   refine zay (show l.length - (j + 1) < l.length - j by omega) (zaa (.cons rfl (.cons rfl (.cons rfl (.cons rfl (.cons rfl (.cons rfl .nil))))))) ⟨j + 1, D ++ D2, _, _, _, rfl, hlt2, hV3, ?_, rfl⟩
   rw [zp7, iL_app, ← y19]
   exact hM2
  ·have hje : j = l.length := by
    have h5 : ¬ ((j : Nat) : Int) < (((l.map fun w => ([.int .i64 (w : Nat)] : List AV)).length : Nat) : Int) := of_decide_eq_false h4
    rw [y07] at h5
    omega
   subst hje
   rw [y1k] at hV
   obtain ⟨qv, hc, hG⟩ := hM.hc
   repeat (first | refine za7 ?_ | refine za5 ?_ | refine za4 ?_ | refine zc7 rfl ?_ | refine zbg ?_ | refine zac ?_)
   refine zdb ?_
   repeat (first | refine za0 rfl ?_ | refine za4 ?_ | refine zbf ?_)
   refine zas (id := 3) (sp := sc) (off := 0) rfl hc (by omega) rfl ?_
   repeat (first | refine za3 rfl ?_ | refine zb6 rfl rfl ?_)
   refine o_gapp (hG.fresh ck (.cells [.int .i64 (v : Nat)])) (by omega) (by omega) rfl rfl zaq (by decide) fun w2 hp2 nx2 ck2 hG3 hnx2 hkp => ?_
   have hk : ∀ i, i ≤ 3 → Am.look i hp2 = Am.look i hp := fun i hi => by rw [hkp i hi, za8, if_neg (by omega)]
   refine zce (id := 3) (sp := sc) (off := 0) rfl rfl hG3.cell.2 ((hk 3 (by omega)).trans hc) (by simp) hG3.cell.1 ?_
   repeat (first | refine za5 ?_)
   refine zak ⟨.inl rfl, _, rfl, D ++ [v], hvis D hV, ?_⟩
   show VM _ _ _ _ _ _ _ _ (zaz 3 _ hp2) nx2
   rw [mrk_snoc, iL_snoc, ← y19]
   refine ⟨by rw [za1, if_neg (by decide), hk 0 (by omega)]; exact hM.ha, ?_, by rw [za1, if_neg (by decide), hk 2 (by omega)]; exact hM.hw, ⟨w2, by rw [za1, if_pos rfl]; rfl, hG3.put (by decide) _⟩, hnx2⟩
   rw [za1, if_neg (by decide), hk 1 (by omega)]
   exact hM.hs
structure GM (E : List (Nat × Nat)) (m : Nat) (g : List Int) (hp : List (Nat × Nat × AObj)) (nx : Nat) : Prop where
 h0 : Am.look 0 hp = some (0, .cells [.ms 1 0 1 0 m (some m)])
 h1 : Am.look 1 hp = some (0, .cells (g.map (AV.int .i64)))
 h2 : Am.look 2 hp = some (0, .cells [.fn 64 [] [.mptr 0 0 0, .vptr [cN E m], .mptr 2 0 0]])
 nx : 2 < nx
theorem GM.keep {E : List (Nat × Nat)} {m : Nat} {g : List Int} {H H' : HS} (h : GM E m g H.heap H.next) (k : Keep (fun j => 2 < j) H H') : GM E m g H'.heap H'.next := by
 have := h.nx
 have := k.next
 exact ⟨(k.look 0 (by decide) (by omega)).trans h.h0, (k.look 1 (by decide) (by omega)).trans h.h1, (k.look 2 (by decide) (by omega)).trans h.h2, by omega⟩
theorem zr9 (k : Int) (v : Nat) : ∀ (D : List Nat) (g : List Int), zjr k (g.set v k) D = (zjr k g D).set v k
 | [], _ => rfl
 | d :: D, g => by
  show zjr k ((g.set v k).set d k) D = (zjr k (g.set d k) D).set v k
  rw [← zr9 k v D]
  congr 1
  by_cases e : v = d
  ·rw [e]
  ·exact List.set_comm _ _ e
theorem zr8 (k : Int) (g : List Int) (A B : List Nat) : zjr k g (A ++ B) = zjr k (zjr k g A) B := y1t ..
theorem zwy (k : Int) (g : List Int) (D : List Nat) (v : Nat) : zjr k g (D ++ [v]) = zjr k (g.set v k) D := by
 rw [zr8, zr9]
 rfl
theorem bs_set {k : Int} (hk : 0 ≤ k) (g : List Int) (v : Nat) : bsG (g.set v k) = (bsG g).set v true := zpz hk [v] g
theorem bs_len (g : List Int) : (bsG g).length = g.length := y07 ..
def b64_0 : IC := .seq (.region [oM 24 (.bin .lss (.t 23) (.t 22))] none)
 (.seq (.cond (.t 24) (.skip)
 (.exit 0))
 (.seq (.block 1 (.seq (.region [oM 25 (.idxs 1 (.t 21) (.t 23)),
  oN 26 25,
  oT 8 26] none)
 (.region [oN 27 4,
  oT 28 8,
  oT 29 1,
  oM 30 (.call (.t 27) [(.t 28), (.t 29)])] none)))
 (.region [oM 31 (.bin .add (.t 23) (.c (.int .i64 1))),
  oT 23 31] none)))
-- pneumatic/digraph.components$2
def ic64 : IC := .seq (.seq (.region [oN 9 2,
  oT 10 0,
  oM 11 (.idxs 1 (.t 9) (.t 10)),
  oN 12 11,
  oM 13 (.bin .geq (.t 12) (.c (.int .i64 0)))] none)
 (.cond (.t 13) (.ret)
 (.skip)))
 (.seq (.region [oN 14 2,
  oT 15 0,
  oT 16 1,
  oM 17 (.idxs 1 (.t 14) (.t 15)),
  ⟨none, .store 1 (.t 17) (.t 16), none⟩] none)
 (.seq (.region [oN 18 3,
  oT 19 0,
  oM 20 (.idxs 1 (.t 18) (.t 19)),
  oN 21 20,
  oM 22 (.len false (.t 21)),
  oM 23 (.mov (.c (.int .i64 0)))] none)
 (.block 0 (.loop b64_0))))
theorem fn64 : env0.fn 64 = some ⟨32, ic64, []⟩ := by kernel_rfl
set_option maxHeartbeats 4000000 in
theorem zu0 (m : Nat) (hm : m ≤ 256) (E : List (Nat × Nat)) (hb : ∀ u v, (u, v) ∈ E → u < m ∧ v < m) (w0 : World) (N0 : Nat) (k : Nat) : ∀ (n : Nat) (g : List Int) (v : Nat) (H : HS), unF (bsG g) < n → g.length = m → v < m → GM E m g H.heap H.next →
  FT Try.prog w0 N0 64 [.int .i64 (v : Nat), .int .i64 (k : Nat), .mptr 0 0 0, .vptr [cN E m], .mptr 2 0 0] H fun _ H' => ∃ D, Vis E m (bsG g) [v] D ∧ GM E m (zjr (k : Int) g D) H'.heap H'.next ∧ Keep (fun j => j = 1) H H' := by
 have ez : ∀ o : Nat, 0 + ((o : Nat) : Int).toNat * 1 = o := fun o => by simp
 have hb2 := fun u v h => (hb u v h).2
 have hk0 : (0 : Int) ≤ (k : Nat) := y1z k
 intro n
 induction n with
 | zero => exact fun g v H h => absurd h (y1w _)
 | succ n ih =>
 intro g v H hun hgl hv hM
 refine zfy env0_ok fn64 [(0, .int .i64 (v : Nat)), (1, .int .i64 (k : Nat)), (2, .mptr 0 0 0), (3, .vptr [cN E m]), (4, .mptr 2 0 0)] (by show 5 ≤ 32; decide) rfl ?_
 obtain ⟨hp, nx, ck⟩ := H
 have hM : GM E m g hp nx := hM
 have hnx := hM.nx
 show Zm _ _ _ _ _ (st 32 _ hp nx ck) _ _
 unfold ic64
 repeat (first | refine za7 ?_ | refine za0 rfl ?_)
 refine zas (id := 0) (sp := 0) (off := 0) rfl hM.h0 (by omega) rfl ?_
 repeat (first | refine za3 rfl ?_ | refine zbe rfl rfl (by omega) (by omega) ?_)
 rw [ez]
 refine zas (id := 1) (sp := 0) (off := v) rfl hM.h1 (by omega) (zqc (by omega)) ?_
 refine zax rfl rfl rfl (fun h3 => ?_) fun h3 => ?_
 ·have h3 : gI g v ≥ 0 := of_decide_eq_true h3
  repeat (first | refine za5 ?_ | refine za4 ?_ | refine zc8 rfl ?_ | refine zao ?_ | refine za9 ?_)
  exact zak ⟨.inr rfl, _, rfl, [], .skip (l := []) (.nil _) (by show gB (bsG g) v = true; rw [zum]; exact decide_eq_true h3), hM, Keep.refl _ _⟩
 ·have h3 : ¬ gI g v ≥ 0 := of_decide_eq_false h3
  have hg : gB (bsG g) v = false := by rw [zum]; exact decide_eq_false h3
  have hun2 := zm8 (by rw [bs_len, hgl]; exact hv) hg
  have hgN := ztq (E := E) hv
  have hin : ∀ w ∈ nbr E m v, w < m := fun w hw => hb2 _ _ ((zcy hb2).1 hw)
  have hnl := zlv E m v
  repeat (first | refine za7 ?_ | refine za0 rfl ?_ | refine za5 ?_ | refine za4 ?_ | refine zaf ?_ | refine zc7 rfl ?_)
  refine zas (id := 0) (sp := 0) (off := 0) rfl hM.h0 (by omega) rfl ?_
  repeat (first | refine za3 rfl ?_ | refine zbe rfl rfl (by omega) (by omega) ?_)
  rw [ez]
  refine zce (id := 1) (sp := 0) (off := v) rfl rfl rfl hM.h1 (by simp; omega) rfl ?_
  repeat (first | refine za7 ?_ | refine za0 rfl ?_ | refine za5 ?_ | refine za4 ?_ | refine zab ?_ | refine za3 rfl ?_ | refine zad rfl rfl ?_ | refine zbo rfl rfl ?_ | refine zb7 rfl rfl (by omega) (by assumption) rfl ?_)
  have hvis : ∀ D, Vis E m (bsG (g.set v (k : Int))) (nbr E m v) D → Vis E m (bsG g) [v] (D ++ [v]) := fun D h => .go (l := []) (D := []) (.nil _) hg (by rw [bs_set hk0] at h; exact h)
  rw [← bs_set hk0] at hun2
  generalize hl : nbr E m v = l at *
  refine zbv (fun mm S => ∃ j D H2, mm = l.length - j ∧ j ≤ l.length ∧ Vis E m (bsG (g.set v (k : Int))) (l.take j) D ∧ GM E m (zjr (k : Int) (g.set v (k : Int)) D) H2.heap H2.next ∧ Keep (fun j => j = 1) ⟨hp, nx, ck⟩ H2 ∧ S = st 32 [(0, .int .i64 (v : Nat)), (1, .int .i64 (k : Nat)), (4, .mptr 2 0 0), (21, vN l), (22, .int .i64 ((l.map fun w => ([.int .i64 (w : Nat)] : List AV)).length : Nat)), (23, .int .i64 (j : Nat))] H2.heap H2.next H2.clk) l.length
   (zaa (.cons rfl (.cons rfl (.cons rfl (.cons rfl (.cons rfl (.cons rfl .nil))))))) ⟨0, [], ⟨zaz 1 _ hp, nx, ck⟩, rfl, y12 _, .nil _, ⟨by show Am.look 0 (zaz 1 _ hp) = _; rw [za1, if_neg (by decide)]; exact hM.h0, by show Am.look 1 (zaz 1 _ hp) = _; rw [za1, if_pos rfl, ← List.map_set]; rfl, by show Am.look 2 (zaz 1 _ hp) = _; rw [za1, if_neg (by decide)]; exact hM.h2, hnx⟩, ⟨y0b _, y0b _, fun i hi _ => by show Am.look i (zaz 1 _ hp) = _; rw [za1, if_neg (fun e => hi e.symm)]⟩, rfl⟩ ?_
  rintro mm S ⟨j, D, H2, rfl, hj, hV, hM, hK, rfl⟩
  have hnx := hM.nx
  have hgl2 : (g.set v (k : Int)).length = m := by rw [y18, hgl]
  have hvu := zxg hb hV (by rw [bs_len, hgl2]) fun y hy => hin y (y2n hy)
  have hml : (zjr (k : Int) (g.set v (k : Int)) D).length = m := by rw [zm4, hgl2]
  unfold b64_0
  repeat (first | refine za7 ?_ | refine za0 rfl ?_)
  refine zax rfl rfl rfl (fun h4 => ?_) fun h4 => ?_
  ·have hlt2 : j < l.length := by
    have h5 : ((j : Nat) : Int) < (((l.map fun w => ([.int .i64 (w : Nat)] : List AV)).length : Nat) : Int) := of_decide_eq_true h4
    rw [y07] at h5
    exact y1i.1 h5
   have w2 : IntKind.wrap .i64 (((j : Nat) : Int) + 1) = ((j + 1 : Nat) : Int) := zam j (by omega)
   have hgv := zny hlt2
   have hym := hin l[j] (y0y hlt2)
   have hts : l.take (j + 1) = l.take j ++ [l[j]] := by rw [y1x, y06 hlt2]; rfl
   generalize l[j] = y at *
   have hft := ih (zjr (k : Int) (g.set v (k : Int)) D) y H2 (by rw [zpz hk0]; omega) hml hym hM
   repeat (first | refine za7 ?_ | refine za0 rfl ?_ | refine za5 ?_ | refine za4 ?_ | refine zab ?_ | refine zaf ?_ | refine zc8 rfl ?_ | refine za3 rfl ?_ | refine zad rfl rfl ?_ | refine zb7 rfl rfl (by omega) (by assumption) rfl ?_)
   refine zas (id := 2) (sp := 0) (off := 0) rfl hM.h2 (by omega) rfl ?_
   repeat (first | refine za3 rfl ?_)
   refine o_ct _ rfl rfl (zmy hft) (fun v H _ m hm => absurd hm y0i) fun r H' hF => ?_
   obtain ⟨D2, hV2, hM2, hK2⟩ := hF
   have hV3 : Vis E m (bsG (g.set v (k : Int))) (l.take (j + 1)) (D ++ D2) := by
    rw [hts]
    rw [zpz hk0] at hV2
    exact hV.snoc hV2
   repeat (first | refine za0 rfl ?_ | refine za5 ?_ | refine za4 ?_ | refine zbl ?_ | refine za3 rfl ?_ | refine zb1 (op := .add) rfl rfl rfl ?_)
   rw [w2]
   refine zay (show l.length - (j + 1) < l.length - j by omega) (zaa (.cons rfl (.cons rfl (.cons rfl (.cons rfl (.cons rfl (.cons rfl .nil))))))) ⟨j + 1, D ++ D2, H', rfl, hlt2, hV3, ?_, hK.trans hK2, rfl⟩
   rw [zr8]
   exact hM2
  ·have hje : j = l.length := by
    have h5 : ¬ ((j : Nat) : Int) < (((l.map fun w => ([.int .i64 (w : Nat)] : List AV)).length : Nat) : Int) := of_decide_eq_false h4
    rw [y07] at h5
    omega
   subst hje
   rw [y1k] at hV
   repeat (first | refine za7 ?_ | refine za5 ?_ | refine za4 ?_ | refine zc7 rfl ?_ | refine zbg ?_ | refine zac ?_)
   refine zdb ?_
   repeat (first | refine zbf ?_)
   refine zak ⟨.inl rfl, _, rfl, D ++ [v], hvis D hV, ?_, hK⟩
   rw [zwy]
   exact hM
theorem zjt {i : Nat} {D : List Nat} (hi : i ∉ D) : ∀ l : List Nat, l.Nodup → i ∈ l → (l.filter fun j => !D.contains j).length = (l.filter fun j => !(i :: D).contains j).length + 1
 | [], _, h => by cases h
 | j :: l, hn, h => by
  obtain ⟨h1, h2⟩ := y21.1 hn
  rw [y14, y14]
  by_cases e : j = i
  ·subst e
   have e1 : (!D.contains j) = true := by simpa using hi
   have e2 : (!(j :: D).contains j) = false := by simp
   rw [if_pos e1, if_neg (by rw [e2]; exact Bool.false_ne_true), y0l]
   congr 2
   refine List.filter_congr fun x hx => ?_
   have hx2 : x ≠ j := fun e => h1 (e ▸ hx)
   simp [hx2]
  ·have hm : i ∈ l := (y0j.1 h).resolve_left fun e2 => e e2.symm
   have ih := zjt hi l h2 hm
   have e3 : (!(i :: D).contains j) = (!D.contains j) := by simp [e]
   rw [e3]
   split
   ·rw [y0l, y0l, ih]
   ·exact ih
theorem zsv {p : Nat → Prop} : ∀ {l : List Nat}, (∀ i ∈ l, p i) → AllL p l
 | [], _ => trivial
 | i :: _, h => ⟨h i (y05 ..), zsv fun j hj => h j (y04 _ hj)⟩
theorem zsg {pres : List (List Nat)} {N : Nat} {D : List Nat} (hp : ∀ i < N, ∀ p ∈ pres.getD i [], p < i) (h : zdr pres N D = []) : ∀ i < N, i ∈ D := by
 intro i
 induction i using Nat.strongRecOn with
 | ind i ih =>
  intro hi
  refine Classical.byContradiction fun hni => ?_
  have : i ∈ zdr pres N D := by
   unfold zdr
   rw [y0t]
   refine ⟨y0g.2 hi, ?_⟩
   rw [y0h, y0d]
   refine ⟨by simpa using hni, fun p hpp => ?_⟩
   have := hp i hi p hpp
   exact y0z.2 (ih p this (by omega))
  rw [h] at this
  cases this
theorem zt8 {P : Program} {w0 : World} {N0 : Nat} {rd : Option (Nat × Nat)} {ios : List Opr} {pres : List (List Nat)} {K : AS → Prop} (hp : ∀ i < ios.length, ∀ p ∈ pres.getD i [], p < i) (I : List Nat → AS → Prop)
  (step : ∀ n D S i, I D S → i < ios.length → i ∉ D → (∀ p ∈ pres.getD i [], p ∈ D) → (∀ S', I (i :: D) S' → AnyF P w0 N0 rd ios pres n (i :: D) S' K) → StF P w0 N0 rd ios pres n D S K i)
  (fin : ∀ D S, I D S → (∀ i < ios.length, i ∈ D) → K S) : ∀ (n : Nat) (D : List Nat) (S : AS), I D S → ((List.range ios.length).filter fun i => !D.contains i).length = n → AnyF P w0 N0 rd ios pres n D S K
 | 0, D, S, hI, hn => by
  have h0 := y1l.1 hn
  rw [List.filter_eq_nil_iff] at h0
  have hall : ∀ i < ios.length, i ∈ D := fun i hi => by
   have := h0 i (y0g.2 hi)
   simpa using this
  refine ⟨?_, fin D S hI hall⟩
  unfold zdr
  rw [List.filter_eq_nil_iff]
  intro i hi
  have := y0z.2 (hall i (y0g.1 hi))
  rw [this]
  simp
 | n + 1, D, S, hI, hn => by
  refine AnyF.succ (fun h => ?_) (zsv fun i hi => ?_)
  ·have hall := zsg hp h
   rw [List.filter_eq_nil_iff.2 fun i hi => by
    have := y0z.2 (hall i (y0g.1 hi))
    rw [this]
    simp] at hn
   cases hn
  ·unfold zdr at hi
   rw [y0t, y0h, y0d] at hi
   obtain ⟨h1, h2, h3⟩ := hi
   have h2 : i ∉ D := by simpa using h2
   refine step n D S i hI (y0g.1 h1) h2 (fun p hp => y0z.1 (h3 p hp)) fun S' hI' => zt8 hp I step fin n (i :: D) S' hI' ?_
   have := zjt h2 (List.range ios.length) y2f h1
   omega
theorem zvp (d : Nat) (v : AV) (l : List (Nat × AV)) : zbw d ((d, v) :: l) = some v := by
 rw [zbw, y25]
theorem zkb {d t : Nat} (h : d ≠ t) (v : AV) (l : List (Nat × AV)) : zbw t ((d, v) :: l) = zbw t l := by
 rw [zbw]
 cases hb : Nat.beq d t with
 | true => exact absurd (y0n hb) h
 | false => rfl
def Lk (base : List (Nat × AV)) (dv : Nat → Option (Nat × AV)) (D : List Nat) (l : List (Nat × AV)) : Prop :=
 (∀ t v, (t, v) ∈ base → zbw t l = some v) ∧ ∀ j d v, dv j = some (d, v) → j ∈ D → zbw d l = some v
theorem Lk.add {base : List (Nat × AV)} {dv dv' : Nat → Option (Nat × AV)} {D : List Nat} {l : List (Nat × AV)} {i d : Nat} {v : AV} (h : Lk base dv D l) (hi : dv' i = some (d, v)) (hb : ∀ t v, (t, v) ∈ base → d ≠ t) (hs : ∀ j, j ∈ D → j ≠ i → dv' j = dv j) (hd : ∀ j e w, j ≠ i → dv' j = some (e, w) → d ≠ e) (hni : i ∉ D) :
  Lk base dv' (i :: D) ((d, v) :: l) := by
 refine ⟨fun t w ht => by rw [zkb (hb t w ht)]; exact h.1 t w ht, fun j e w hj hm => ?_⟩
 by_cases hji : j = i
 ·subst hji
  rw [hi] at hj
  injection hj with hj
  injection hj with h1 h2
  subst h1 h2
  exact zvp ..
 ·rw [zkb (hd j e w hji hj)]
  have hm2 : j ∈ D := (y0j.1 hm).resolve_left hji
  exact h.2 j e w (by rw [← hs j hm2 hji]; exact hj) hm2
def zwg : List Opr := [oL 19 2 1, oM 20 (.call (.c (.fn 42 [] [])) [(.t 19)]), oL 21 2 1, oM 22 (.call (.c (.fn 46 [] [])) [(.t 21)]), oM 23 (.call (.c (.fn 42 [] [])) [(.t 22)]), oM 4 (.alloc [.nils]), oM 5 (.alloc [.nils]), ⟨none, .store 1 (.t 4) (.t 20), none⟩, ⟨none, .store 1 (.t 5) (.t 23), none⟩]
def reg43p : List (List Nat) := [[], [0], [], [2, 1], [3, 3], [], [], [5, 1, 4, 0, 1, 5, 6], [6, 4, 7, 0, 1, 2, 3, 4, 5, 6, 7]]
structure N43 where
 i5 : Nat
 s5 : Nat
 i6 : Nat
 s6 : Nat
def dv43 (gc : List AV) (A R B : AV) (q : N43) : Nat → Option (Nat × AV)
 | 0 => some (19, .agg gc)
 | 1 => some (20, A)
 | 2 => some (21, .agg gc)
 | 3 => some (22, R)
 | 4 => some (23, B)
 | 5 => some (4, .mptr q.i5 q.s5 0)
 | 6 => some (5, .mptr q.i6 q.s6 0)
 | _ => none
def dd43 : Nat → Nat
 | 5 => 4
 | 6 => 5
 | j => 19 + j
theorem dv43_dst {gc : List AV} {A R B : AV} {q : N43} : ∀ {j e : Nat} {v : AV}, dv43 gc A R B q j = some (e, v) → e = dd43 j ∧ j < 7
 | 0, _, _, h | 1, _, _, h | 2, _, _, h | 3, _, _, h | 4, _, _, h | 5, _, _, h | 6, _, _, h => by
  injection h with h
  injection h with h1 h2
  exact ⟨h1.symm, by decide⟩
 | j + 7, _, _, h => by cases h
theorem dd43_ne {i j : Nat} (hi : i < 7) (hj : j < 7) (h : j ≠ i) : dd43 i ≠ dd43 j := by
 have : ∀ a < 7, ∀ b < 7, b ≠ a → dd43 a ≠ dd43 b := by decide
 exact this i hi j hj h
structure M43 (A B : AV) (D : List Nat) (hp : List (Nat × Nat × AObj)) (nx : Nat) (q : N43) : Prop where
 h5 : 5 ∈ D → Am.look q.i5 hp = some (q.s5, .cells [if D.contains 7 then A else .nils])
 l5 : 5 ∈ D → q.i5 < nx
 h6 : 6 ∈ D → Am.look q.i6 hp = some (q.s6, .cells [if D.contains 8 then B else .nils])
 l6 : 6 ∈ D → q.i6 < nx
 ne : 5 ∈ D → 6 ∈ D → q.i5 ≠ q.i6
 c7 : 7 ∈ D → 5 ∈ D
 c8 : 8 ∈ D → 6 ∈ D
def zgg (gc : List AV) : List (Nat × AV) := [(1, .vptr gc)]
def Inv43 (gc : List AV) (A R B : AV) (D : List Nat) (S : AS) : Prop :=
 ∃ l hp nx ck q, S = st 80 l hp nx ck ∧ Lk (zgg gc) (dv43 gc A R B q) D l ∧ M43 A B D hp nx q
theorem ztj {gc : List AV} {j : Nat} (hj : j < 7) : ∀ t v, (t, v) ∈ zgg gc → dd43 j ≠ t := fun t v h => by
 unfold zgg at h
 simp only [y0j, y09, y0i, or_false] at h
 have : ∀ k < 7, 4 ≤ dd43 k := by decide
 have := this j hj
 omega
theorem M43.keep {A B : AV} {D : List Nat} {hp : List (Nat × Nat × AObj)} {nx j : Nat} {q : N43} (h : M43 A B D hp nx q) (n5 : j ≠ 5) (n6 : j ≠ 6) (n7 : j ≠ 7) (n8 : j ≠ 8) : M43 A B (j :: D) hp nx q := by
 have e : ∀ k, j ≠ k → k ∈ j :: D → k ∈ D := fun k hk hm => (y0j.1 hm).resolve_left fun e => hk e.symm
 have c : ∀ k, j ≠ k → (j :: D).contains k = D.contains k := fun k hk => by rw [y2b, show (k == j) = false from beq_eq_false_iff_ne.2 fun e => hk e.symm, y2y]
 exact ⟨fun a => by rw [c 7 n7]; exact h.h5 (e 5 n5 a), fun a => h.l5 (e 5 n5 a), fun a => by rw [c 8 n8]; exact h.h6 (e 6 n6 a), fun a => h.l6 (e 6 n6 a), fun a b => h.ne (e 5 n5 a) (e 6 n6 b), fun a => y04 _ (h.c7 (e 7 n7 a)), fun a => y04 _ (h.c8 (e 8 n8 a))⟩
set_option maxHeartbeats 1000000 in
theorem step43 {w0 : World} {N0 : Nat} {rd : Option (Nat × Nat)} {K : AS → Prop} (gc : List AV) (A R B : AV) (hl2 : gc.length = 2) (hA : A.cells? = some [A]) (hB : B.cells? = some [B]) (cA : A.isCell = true) (cB : B.isCell = true) (mA : hasM (.agg gc) = false) (mR : hasM R = false)
  (hvA : ∀ S : AS, S.view VD (.agg gc) = .agg gc) (hvR : ∀ S : AS, S.view VD R = R) (p1 : PF Try.prog 42 [.agg gc] A) (p2 : PF Try.prog 46 [.agg gc] R) (p3 : PF Try.prog 42 [R] B)
  (r : Nat) (D : List Nat) (S : AS) (j : Nat) (hI : Inv43 gc A R B D S) (hj : j < 9) (hni : j ∉ D) (hpre : ∀ p ∈ reg43p.getD j [], p ∈ D)
  (go : ∀ S', Inv43 gc A R B (j :: D) S' → AnyF Try.prog w0 N0 rd zwg reg43p r (j :: D) S' K) : StF Try.prog w0 N0 rd zwg reg43p r D S K j := by
 obtain ⟨l, hp, nx, ck, q, rfl, hL, hP⟩ := hI
 have b1 : zbw 1 l = some (.vptr gc) := hL.1 _ _ (by unfold zgg; simp)
 have pr : ∀ k d v, dv43 gc A R B q k = some (d, v) → k ∈ D → zbw d l = some v := hL.2
 have ad : ∀ {i : Nat} {v : AV} {q' : N43}, i < 7 → i ∉ D → dv43 gc A R B q' i = some (dd43 i, v) → (∀ k, k ∈ D → k ≠ i → dv43 gc A R B q' k = dv43 gc A R B q k) → Lk (zgg gc) (dv43 gc A R B q') (i :: D) ((dd43 i, v) :: l) := fun hi hn hv hs => hL.add hv (ztj hi) hs (fun k e v hk he => by
  obtain ⟨e1, e2⟩ := dv43_dst he
  rw [e1]
  exact dd43_ne hi e2 hk) hn
 have mk0 : zc6 [] hp := fun _ h => absurd h y0i
 have gl : iop (st 80 l hp nx ck) (.load (some 2) (.t 1)) = some (.agg gc, st 80 l hp nx ck) := zop b1 rfl (by rw [hl2]; rfl) (by rw [← hl2, y1k])
 match j, hj, hni, hpre, go with
 | 0, _, hni, hpre, go => exact zh5 (i := 0) rfl rfl gl (go _ ⟨_, _, _, _, q, rfl, ad (i := 0) (by decide) hni rfl (fun _ _ _ => rfl), hP.keep (by decide) (by decide) (by decide) (by decide)⟩)
 | 2, _, hni, hpre, go => exact zh5 (i := 2) rfl rfl gl (go _ ⟨_, _, _, _, q, rfl, ad (i := 2) (by decide) hni rfl (fun _ _ _ => rfl), hP.keep (by decide) (by decide) (by decide) (by decide)⟩)
 | 1, _, hni, hpre, go =>
  have h0 := pr 0 19 _ rfl (hpre 0 (by decide))
  exact zo7 (i := 1) (vs := [.agg gc]) rfl rfl (by simp only [zfd, zaw, h0]) (by rw [y1p, hvA]; rfl) p1 (fun h => absurd h (by show ¬ (hasM (.agg gc) || false) = true; rw [mA]; simp)) mk0 (go _ ⟨_, _, _, _, q, rfl, ad (i := 1) (by decide) hni rfl (fun _ _ _ => rfl), hP.keep (by decide) (by decide) (by decide) (by decide)⟩)
 | 3, _, hni, hpre, go =>
  have h0 := pr 2 21 _ rfl (hpre 2 (by decide))
  exact zo7 (i := 3) (vs := [.agg gc]) rfl rfl (by simp only [zfd, zaw, h0]) (by rw [y1p, hvA]; rfl) p2 (fun h => absurd h (by show ¬ (hasM (.agg gc) || false) = true; rw [mA]; simp)) mk0 (go _ ⟨_, _, _, _, q, rfl, ad (i := 3) (by decide) hni rfl (fun _ _ _ => rfl), hP.keep (by decide) (by decide) (by decide) (by decide)⟩)
 | 4, _, hni, hpre, go =>
  have h0 := pr 3 22 _ rfl (hpre 3 (by decide))
  exact zo7 (i := 4) (vs := [R]) rfl rfl (by simp only [zfd, zaw, h0]) (by rw [y1p, hvR]; rfl) p3 (fun h => absurd h (by show ¬ (hasM R || false) = true; rw [mR]; simp)) mk0 (go _ ⟨_, _, _, _, q, rfl, ad (i := 4) (by decide) hni rfl (fun _ _ _ => rfl), hP.keep (by decide) (by decide) (by decide) (by decide)⟩)
 | 5, _, hni, hpre, go =>
  have n7 : 7 ∉ D := fun h => hni (hP.c7 h)
  refine zh5 (i := 5) rfl rfl zon (go _ ⟨_, _, _, _, { q with i5 := nx, s5 := ck }, rfl, ad (i := 5) (by decide) hni rfl (fun k hk hkj => by
   match k, hkj with
   | 0, _ | 1, _ | 2, _ | 3, _ | 4, _ | 6, _ => rfl
   | 5, h => exact absurd rfl h
   | k + 7, _ => rfl), ?_⟩)
  have e : ∀ k, 5 ≠ k → k ∈ 5 :: D → k ∈ D := fun k hk hm => (y0j.1 hm).resolve_left fun e => hk e.symm
  have c : ∀ k, 5 ≠ k → (5 :: D).contains k = D.contains k := fun k hk => by rw [y2b, show (k == 5) = false from beq_eq_false_iff_ne.2 fun e => hk e.symm, y2y]
  have c7 : D.contains 7 = false := by simpa using n7
  refine ⟨fun _ => by rw [c 7 (by decide), c7]; exact zaq, fun _ => y0m _, fun a => ?_, fun a => ?_, fun _ b => ?_, fun a => absurd (e 7 (by decide) a) n7, fun a => y04 _ (hP.c8 (e 8 (by decide) a))⟩
  ·rw [c 8 (by decide), za8, if_neg (by have := hP.l6 (e 6 (by decide) a); show ¬ nx = q.i6; omega)]
   exact hP.h6 (e 6 (by decide) a)
  ·have := hP.l6 (e 6 (by decide) a); show q.i6 < nx + 1; omega
  ·have := hP.l6 (e 6 (by decide) b); show nx ≠ q.i6; omega
 | 6, _, hni, hpre, go =>
  have n8 : 8 ∉ D := fun h => hni (hP.c8 h)
  refine zh5 (i := 6) rfl rfl zon (go _ ⟨_, _, _, _, { q with i6 := nx, s6 := ck }, rfl, ad (i := 6) (by decide) hni rfl (fun k hk hkj => by
   match k, hkj with
   | 0, _ | 1, _ | 2, _ | 3, _ | 4, _ | 5, _ => rfl
   | 6, h => exact absurd rfl h
   | k + 7, _ => rfl), ?_⟩)
  have e : ∀ k, 6 ≠ k → k ∈ 6 :: D → k ∈ D := fun k hk hm => (y0j.1 hm).resolve_left fun e => hk e.symm
  have c : ∀ k, 6 ≠ k → (6 :: D).contains k = D.contains k := fun k hk => by rw [y2b, show (k == 6) = false from beq_eq_false_iff_ne.2 fun e => hk e.symm, y2y]
  have c8 : D.contains 8 = false := by simpa using n8
  refine ⟨fun a => ?_, fun a => ?_, fun _ => by rw [c 8 (by decide), c8]; exact zaq, fun _ => y0m _, fun a _ => ?_, fun a => y04 _ (hP.c7 (e 7 (by decide) a)), fun a => absurd (e 8 (by decide) a) n8⟩
  ·rw [c 7 (by decide), za8, if_neg (by have := hP.l5 (e 5 (by decide) a); show ¬ nx = q.i5; omega)]
   exact hP.h5 (e 5 (by decide) a)
  ·have := hP.l5 (e 5 (by decide) a); show q.i5 < nx + 1; omega
  ·have := hP.l5 (e 5 (by decide) a); show q.i5 ≠ nx; omega
 | 7, _, hni, hpre, go =>
  have h4 := pr 5 4 _ rfl (hpre 5 (by decide))
  have h20 := pr 1 20 _ rfl (hpre 1 (by decide))
  have m5 : 5 ∈ D := hpre 5 (by decide)
  have m6 : 6 ∈ D := hpre 6 (by decide)
  have hk := hP.h5 m5
  refine zmi (i := 7) rfl (zh8 (id := q.i5) (sp := q.s5) (off := 0) h4 h20 hA rfl hk rfl (by show (A.isCell && true) = true; rw [cA]; rfl)) (go _ ⟨_, _, _, _, q, rfl, ⟨hL.1, fun k d v hk hm => ?_⟩, ?_⟩)
  ·rcases y0j.1 hm with rfl | hm
   ·cases hk
   ·exact hL.2 k d v hk hm
  ·have c : (7 :: D).contains 8 = D.contains 8 := by rw [y2b, show ((8 : Nat) == 7) = false from rfl, y2y]
   refine ⟨fun _ => ?_, fun _ => hP.l5 m5, fun a => ?_, fun _ => hP.l6 m6, fun _ _ => hP.ne m5 m6, fun _ => y04 _ m5, fun _ => y04 _ m6⟩
   ·rw [za1, if_pos rfl, y2b, show ((7 : Nat) == 7) = true from rfl, Bool.true_or, if_pos rfl]
    rfl
   ·rw [c, za1, if_neg (hP.ne m5 m6)]
    exact hP.h6 m6
 | 8, _, hni, hpre, go =>
  have h5 := pr 6 5 _ rfl (hpre 6 (by decide))
  have h23 := pr 4 23 _ rfl (hpre 4 (by decide))
  have m5 : 5 ∈ D := hpre 5 (by decide)
  have m6 : 6 ∈ D := hpre 6 (by decide)
  have hk := hP.h6 m6
  refine zmi (i := 8) rfl (zh8 (id := q.i6) (sp := q.s6) (off := 0) h5 h23 hB rfl hk rfl (by show (B.isCell && true) = true; rw [cB]; rfl)) (go _ ⟨_, _, _, _, q, rfl, ⟨hL.1, fun k d v hk hm => ?_⟩, ?_⟩)
  ·rcases y0j.1 hm with rfl | hm
   ·cases hk
   ·exact hL.2 k d v hk hm
  ·have c : (8 :: D).contains 7 = D.contains 7 := by rw [y2b, show ((7 : Nat) == 8) = false from rfl, y2y]
   refine ⟨fun a => ?_, fun _ => hP.l5 m5, fun _ => ?_, fun _ => hP.l6 m6, fun _ _ => hP.ne m5 m6, fun _ => y04 _ m5, fun _ => y04 _ m6⟩
   ·rw [c, za1, if_neg fun e => hP.ne m5 m6 e.symm]
    exact hP.h5 m5
   ·rw [za1, if_pos rfl, y2b, show ((8 : Nat) == 8) = true from rfl, Bool.true_or, if_pos rfl]
    rfl
 | j + 9, hj, _, _, _ => exact absurd hj (by omega)
theorem nets43 {w0 : World} {N0 : Nat} {k : List Fr} {Q : Exit → AS → Prop} {y : IC} (gc : List AV) (A R B : AV) (hl2 : gc.length = 2) (hA : A.cells? = some [A]) (hB : B.cells? = some [B]) (cA : A.isCell = true) (cB : B.isCell = true) (mG : hasM (.agg gc) = false) (mR : hasM R = false) (mA : hasM A = false) (mB : hasM B = false)
  (hvA : ∀ S : AS, S.view VD (.agg gc) = .agg gc) (hvR : ∀ S : AS, S.view VD R = R) (p1 : PF Try.prog 42 [.agg gc] A) (p2 : PF Try.prog 46 [.agg gc] R) (p3 : PF Try.prog 42 [R] B)
  (fin : Zm Try.prog w0 N0 none y (st 80 [(4, .mptr 0 0 0), (5, .mptr 1 0 0), (1, .vptr gc)] [(0, 0, .cells [A]), (1, 0, .cells [B])] 2 1) k Q) :
  Zm Try.prog w0 N0 none (.region zwg (some reg43p)) (st 80 (zgg gc) [] 0 1) (.seq y :: k) Q := by
 refine z_any env0_ok.mix fun rd => zt8 (by decide) (Inv43 gc A R B) (fun r D S j hI hj hni hpre go => step43 gc A R B hl2 hA hB cA cB mG mR hvA hvR p1 p2 p3 r D S j hI hj hni hpre go) (fun D S hI hall => Um.ok ?_) 9 [] _ ⟨_, _, _, _, ⟨0, 0, 0, 0⟩, rfl, ⟨fun t v h => ?_, fun _ _ _ _ h => (by cases h)⟩, ⟨fun h => (by cases h), fun h => (by cases h), fun h => (by cases h), fun h => (by cases h), fun h => (by cases h), fun h => (by cases h), fun h => (by cases h)⟩⟩ rfl
 ·obtain ⟨l, hp, nx, ck, q, rfl, hL, hP⟩ := hI
  have h4 := hL.2 5 4 _ rfl (hall 5 (by decide))
  have h5 := hL.2 6 5 _ rfl (hall 6 (by decide))
  have b1 : zbw 1 l = some (.vptr gc) := hL.1 _ _ (by unfold zgg; simp)
  have k5 := hP.h5 (hall 5 (by decide))
  have k6 := hP.h6 (hall 6 (by decide))
  rw [y0z.2 (hall 7 (by decide)), if_pos rfl] at k5
  rw [y0z.2 (hall 8 (by decide)), if_pos rfl] at k6
  have hne := hP.ne (hall 5 (by decide)) (hall 6 (by decide))
  refine za4 ?_
  refine zbm [(some (q.i5, q.s5), [A]), (some (q.i6, q.s6), [B])] [] [(4, .mptr 0 0 0), (5, .mptr 1 0 0), (1, .vptr gc)] ?_ .nil (.cons k5 (.cons (.same mA) .nil) (.cons k6 (.cons (.same mB) .nil) .nil)) (.cons h4 (.mptr rfl) (.cons h5 (.mptr rfl) (.cons b1 (.same rfl) .nil))) fin
  show (!zls q.i5 [] && (!zls q.i6 [q.i5] && true)) = true
  have : zls q.i6 [q.i5] = false := by
   cases hb : zls q.i6 [q.i5] with
   | false => rfl
   | true => exact absurd (y0e.1 (zfr.1 hb)) fun e => hne e.symm
  rw [this]
  rfl
 ·unfold zgg at *
  obtain ⟨rfl, rfl⟩ : t = 1 ∧ v = .vptr gc := by simpa using h
  rfl
noncomputable def zin : Code := match env0.fn 41 with
 | some i => ((zbr i.ic)[0]?.getD (.skip, .skip)).1
 | none => .skip
noncomputable def ziq : Code := match env0.fn 41 with
 | some i => ((zbr i.ic)[0]?.getD (.skip, .skip)).2
 | none => .skip
def b41_0 : IC := .seq (.region [oM 31 (.bin .lss (.t 30) (.t 29))] none)
 (.seq (.cond (.t 31) (.skip)
 (.exit 0))
 (.seq (.block 1 (.seq (.region [oT 32 30,
  oT 9 32] none)
 (.region [oN 33 8,
  oT 34 9,
  oM 35 (.call (.t 33) [(.t 34)])] none)))
 (.region [oM 36 (.bin .add (.t 30) (.c (.int .i64 1))),
  oT 30 36] none)))
def b41_4 : IC := .seq (.region [oM 54 (.bin .lss (.t 53) (.t 52))] none)
 (.seq (.cond (.t 54) (.skip)
 (.exit 4))
 (.seq (.block 5 (.seq (.region [oT 55 53,
  oM 56 (.idxs 1 (.t 51) (.t 53)),
  oN 57 56,
  oT 15 55,
  oT 16 57] none)
 (.seq (.seq (.region [oT 59 14,
  oT 60 16,
  oM 61 (.mapget .int (.int .i64 0) true (.t 59) (.t 60)),
  oT 58 61,
  oM 62 (.extract (.t 58) 0),
  oM 63 (.extract (.t 58) 1),
  oT 17 62,
  oT 18 63] none)
 (.seq (.region [oT 64 18,
  oM 65 (.un .not (.t 64))] none)
 (.cond (.t 65) (.region [oT 66 14,
  oT 67 16,
  oT 68 14,
  oM 69 (.mapget .int (.top) false (.t 68) (.c (.int .i64 0))),
  ⟨none, .mapset .int (.t 66) (.t 67) (.t 69), none⟩] none)
 (.skip))))
 (.region [oN 70 10,
  oT 71 15,
  oT 72 14,
  oT 73 16,
  oM 74 (.mapget .int (.int .i64 0) false (.t 72) (.t 73)),
  oM 75 (.idxs 1 (.t 70) (.t 71)),
  ⟨none, .store 1 (.t 75) (.t 74), none⟩] none))))
 (.region [oM 76 (.bin .add (.t 53) (.c (.int .i64 1))),
  oT 53 76] none)))
def zob : IC := .seq (.region [oT 12 44] none)
 (.region [oT 13 45] none)
def zwc : IC := .block 3 (.region [oN 46 11,
  oT 47 13,
  oT 48 12,
  oM 49 (.call (.t 46) [(.t 47), (.t 48)])] none)
-- pneumatic/digraph.components
noncomputable def ic41 : IC := .seq (.region [oM 1 (.box (.t 0)),
  oM 2 (.mov (.c (.nils))),
  oM 3 (.mov (.c (.int .i64 0)))] none)
 (.seq (.region [oL 19 2 1,
  oM 20 (.call (.c (.fn 42 [] [])) [(.t 19)]),
  oL 21 2 1,
  oM 22 (.call (.c (.fn 46 [] [])) [(.t 21)]),
  oM 23 (.call (.c (.fn 42 [] [])) [(.t 22)]),
  oM 4 (.alloc [.nils]),
  oM 5 (.alloc [.nils]),
  ⟨none, .store 1 (.t 4) (.t 20), none⟩,
  ⟨none, .store 1 (.t 5) (.t 23), none⟩] (some [[], [0], [], [2, 1], [3, 3], [], [], [5, 1, 4, 0, 1, 5, 6], [6, 4, 7, 0, 1, 2, 3, 4, 5, 6, 7]]))
 (.seq (.region [oF 24 0 1,
  oN 25 24,
  oM 26 (.mkslice 1 1 [.bool false] (.t 25) (.t 25)),
  oM 6 (.alloc [.nils]),
  ⟨none, .store 1 (.t 6) (.t 26), none⟩] none)
 (.seq (.region [oM 7 (.alloc [.nils])] none)
 (.seq (.region [oM 8 (.alloc [.nilf])] none)
 (.seq (.region [oM 27 (.mkfn 63 [] [(.t 6), (.t 4), (.t 8), (.t 7)]),
  ⟨none, .store 1 (.t 8) (.t 27), none⟩] none)
 (.seq (.seq (.region [oN 28 4,
  oM 29 (.len false (.t 28)),
  oM 30 (.mov (.c (.int .i64 0)))] none)
 (.block 0 (.loop b41_0)))
 (.seq (.region [oM 37 (.bslice 1 1 [.int .i64 0] [(0, 1, (.c (.int .i64 (-1))))]),
  oF 38 0 1,
  oN 39 38,
  oM 40 (.call (.c (.fn 58 [] [])) [(.t 37), (.t 39)]),
  oM 10 (.alloc [.nils]),
  ⟨none, .store 1 (.t 10) (.t 40), none⟩] none)
 (.seq (.region [oM 11 (.alloc [.nilf])] none)
 (.seq (.region [oM 41 (.mkfn 64 [] [(.t 10), (.t 5), (.t 11)]),
  ⟨none, .store 1 (.t 11) (.t 41), none⟩] none)
 (.seq (.seq (.region [oN 42 7,
  oM 43 (.call (.c (.fn 65 [] [])) [(.t 42)])] none)
 (.block 2 (.rangeFunc (.t 43) [44, 45] zin ziq zob zwc)))
 (.seq (.region [oM 50 (.mkmap),
  oT 14 50] none)
 (.seq (.seq (.region [oN 51 10,
  oM 52 (.len false (.t 51)),
  oM 53 (.mov (.c (.int .i64 0)))] none)
 (.block 4 (.loop b41_4)))
 (.seq (.region [oN 77 10,
  oT 78 14,
  oM 79 (.mapget .int (.top) false (.t 78) (.c (.int .i64 0))),
  oT 2 77,
  oT 3 79] none)
 (.ret))))))))))))))
theorem fn41 : env0.fn 41 = some ⟨80, ic41, [.t 2, .t 3]⟩ := by kernel_rfl
theorem iL_get {l : List Nat} {i : Nat} (h : i < l.length) : ((iL l).map fun z => ([.int .i64 z] : List AV))[((i : Nat) : Int).toNat]? = some [.int .i64 (gN l i : Nat)] := by
 rw [zei (by unfold iL; rw [y07]; exact h)]
 unfold iL
 rw [List.getElem_map, gN_at h]
-- slices.Backward[[]int,int]
def ic65 : IC := .seq (.region [oM 1 (.box (.t 0)),
  oM 2 (.mov (.c (.nilf)))] none)
 (.seq (.region [oM 3 (.mkfn 76 [] [(.t 1)]),
  oT 2 3] none)
 (.ret))
theorem fn65 : env0.fn 65 = some ⟨4, ic65, [.t 2]⟩ := by kernel_rfl
def b76_0 : IC := .seq (.seq (.region [oT 7 3,
  oM 8 (.bin .geq (.t 7) (.c (.int .i64 0)))] none)
 (.cond (.t 8) (.skip)
 (.exit 0)))
 (.seq (.block 1 (.seq (.region [oT 11 0,
  oT 12 3,
  oN 13 1,
  oT 14 3,
  oM 15 (.idxs 1 (.t 13) (.t 14)),
  oN 16 15,
  oM 17 (.call (.t 11) [(.t 12), (.t 16)]),
  oM 18 (.un .not (.t 17))] none)
 (.cond (.t 18) (.ret)
 (.skip))))
 (.region [oT 9 3,
  oM 10 (.bin .sub (.t 9) (.c (.int .i64 1))),
  oT 3 10] none))
-- slices.Backward[[]int,int]$1
def ic76 : IC := .seq (.region [oN 4 1,
  oM 5 (.len false (.t 4)),
  oM 6 (.bin .sub (.t 5) (.c (.int .i64 1))),
  oT 3 6] none)
 (.block 0 (.loop b76_0))
theorem fn76 : env0.fn 76 = some ⟨19, ic76, []⟩ := by kernel_rfl
theorem zro (C : List Int) : PF Try.prog 65 [vsI C] (.fn 76 [] [.vptr [vsI C]]) := by
 refine zb0 env0_ok fn65 [(0, vsI C)] (by show 1 ≤ 4; decide) rfl fun w0 N0 => ?_
 unfold ic65
 repeat (first | refine za7 ?_ | refine za0 rfl ?_ | refine za5 ?_ | refine za4 ?_ | refine zao ?_ | refine za3 rfl ?_ | refine zcz rfl rfl ?_ | refine ze5 rfl rfl ?_)
 exact zak ⟨.inr rfl, _, rfl, rfl⟩
structure QG (E : List (Nat × Nat)) (m s4 s5 : Nat) (ltm : List (Nat × AV)) (stt : LoopState) (g : List Int) (H : HS) : Prop where
 gm : GM E m g H.heap H.next
 h4 : Am.look 4 H.heap = some (s4, .deferred)
 h5 : Am.look 5 H.heap = some (s5, .loop stt none 80 (zf8 ltm) [44, 45] zin ziq (4, s4))
 nx : 5 < H.next
set_option maxHeartbeats 2000000 in
theorem range72 {w0 : World} {N0 m s4 s5 : Nat} {E : List (Nat × Nat)} {C : List Nat} {ltm : List (Nat × AV)} (hm : m ≤ 256) (hC : C.length = m)
  (hy : ∀ (k : Nat) (g : List Int) (H : HS), k < m → Grp E m C (k + 1) g → QG (rvE E) m s4 s5 ltm .ready g H →
   CT Try.prog w0 N0 (.yield 5 s5) [.int .i64 (k : Nat), .int .i64 (gN C k : Nat)] H fun v H' => v = .bool true ∧ ∃ g', Grp E m C k g' ∧ QG (rvE E) m s4 s5 ltm .ready g' H')
  (H : HS) (g : List Int) (hG : Grp E m C m g) (hQ : QG (rvE E) m s4 s5 ltm .ready g H) :
  FT Try.prog w0 N0 76 [.yield 5 s5, .vptr [vsI (iL C)]] H fun _ H' => ∃ g', Grp E m C 0 g' ∧ QG (rvE E) m s4 s5 ltm .ready g' H' := by
 have hvl : ((iL C).map fun z => ([.int .i64 z] : List AV)).length = m := by rw [y07, zv0, hC]
 have w1 : IntKind.wrap .i64 (((m : Nat) : Int) - 1) = ((m : Nat) : Int) - 1 := zhj _ (by omega) (by omega)
 refine zfy env0_ok fn76 [(0, .yield 5 s5), (1, .vptr [vsI (iL C)])] (by show 2 ≤ 19; decide) rfl ?_
 unfold ic76
 repeat (first | refine za7 ?_ | refine za0 rfl ?_ | refine za5 ?_ | refine za4 ?_ | refine zab ?_ | refine za3 rfl ?_ | refine zad rfl rfl ?_ | refine zbo rfl rfl ?_ | refine zb1 (op := .sub) rfl rfl rfl ?_)
 rw [hvl, w1]
 refine zbv (fun mm S => ∃ k g H', mm = k ∧ k ≤ m ∧ Grp E m C k g ∧ QG (rvE E) m s4 s5 ltm .ready g H' ∧ S = st 19 [(0, .yield 5 s5), (1, .vptr [vsI (iL C)]), (3, .int .i64 (((k : Nat) : Int) - 1))] H'.heap H'.next H'.clk) m
  (zaa (.cons rfl (.cons rfl (.cons rfl .nil)))) ⟨m, g, H, rfl, y0b _, hG, hQ, rfl⟩ ?_
 rintro k S ⟨_, g, H', rfl, hk, hG, hQ, rfl⟩
 unfold b76_0
 repeat (first | refine za7 ?_ | refine za0 rfl ?_ | refine za3 rfl ?_)
 refine zax rfl rfl rfl (fun h4 => ?_) fun h4 => ?_
 ·obtain ⟨k, rfl⟩ : ∃ v, k = v + 1 := by
   have h5 : ((k : Nat) : Int) - 1 ≥ 0 := of_decide_eq_true h4
   exact ⟨k - 1, by omega⟩
  have e1 : (((k + 1 : Nat) : Int) - 1) = (k : Nat) := by omega
  have w2 : IntKind.wrap .i64 (((k : Nat) : Int) - 1) = ((k : Nat) : Int) - 1 := zhj _ (by omega) (by omega)
  have hgk := iL_get (l := C) (i := k) (by omega)
  rw [e1]
  repeat (first | refine za7 ?_ | refine za0 rfl ?_ | refine za5 ?_ | refine za4 ?_ | refine zab ?_ | refine zaf ?_ | refine zc8 rfl ?_ | refine za3 rfl ?_ | refine zad rfl rfl ?_ | refine zb7 rfl rfl (by omega) (by assumption) rfl ?_)
  refine o_ct _ rfl rfl (hy k g H' (by omega) hG hQ) (fun _ _ _ _ hm => absurd hm y0i) fun v H2 hF => ?_
  obtain ⟨rfl, g', hG', hQ'⟩ := hF
  repeat (first | refine za0 rfl ?_ | refine za5 ?_ | refine za4 ?_ | refine zbl ?_ | refine zaf ?_ | refine zc7 rfl ?_ | refine za3 rfl ?_ | refine zmd rfl rfl ?_ | refine zb1 (op := .sub) rfl rfl rfl ?_)
  rw [w2]
  exact zay (y0m k) (zaa (.cons rfl (.cons rfl (.cons rfl .nil)))) ⟨k, g', H2, rfl, by omega, hG', hQ', rfl⟩
 ·obtain rfl : k = 0 := by
   have h5 : ¬ ((k : Nat) : Int) - 1 ≥ 0 := of_decide_eq_false h4
   omega
  repeat (first | refine za5 ?_ | refine za4 ?_ | refine zc7 rfl ?_ | refine zbg ?_ | refine zac ?_)
  refine zdb ?_
  repeat (first | refine zbf ?_)
  exact zak ⟨.inl rfl, _, rfl, g, hG, hQ⟩
def l43 (C : List Nat) (gc : List AV) : List (Nat × AV) := [(43, .fn 76 [] [.vptr [vsI (iL C)]]), (1, .vptr gc), (10, .mptr 0 0 0), (11, .mptr 2 0 0)]
set_option maxHeartbeats 4000000 in
theorem yield43 {w0 : World} {N0 m s4 s5 : Nat} {E : List (Nat × Nat)} {C : List Nat} {gc : List AV} (hm : m ≤ 256) (hb : ∀ u v, (u, v) ∈ E → u < m ∧ v < m) (hC : Cls E m C) (ha : Com Try.prog zin zob) (hbb : Com Try.prog ziq zwc)
  (k : Nat) (g : List Int) (H : HS) (hk : k < m) (hG : Grp E m C (k + 1) g) (hQ : QG (rvE E) m s4 s5 (l43 C gc) .ready g H) :
  CT Try.prog w0 N0 (.yield 5 s5) [.int .i64 (k : Nat), .int .i64 (gN C k : Nat)] H fun v H' => v = .bool true ∧ ∃ g', Grp E m C k g' ∧ QG (rvE E) m s4 s5 (l43 C gc) .ready g' H' := by
 obtain ⟨hp, nx, ck⟩ := H
 obtain ⟨gm, h4, h5, hnx⟩ := hQ
 have gm : GM (rvE E) m g hp nx := gm
 have h4 : Am.look 4 hp = _ := h4
 have h5 : Am.look 5 hp = _ := h5
 have hnx : 5 < nx := hnx
 have hkC : k < C.length := by rw [hC.len]; exact hk
 have hvm : gN C k < m := by rw [← gN_at hkC]; exact hC.lt _ (y0y hkC)
 refine zq6 (l0 := (45, .int .i64 (gN C k : Nat)) :: (44, .int .i64 (k : Nat)) :: l43 C gc) h5 ha hbb rfl (by decide) rfl ?_
 show Zm _ _ _ _ _ (st 80 _ hp nx ck) _ _
 unfold zob
 repeat (first | refine za7 ?_ | refine za0 rfl ?_ | refine za5 ?_ | refine za4 ?_ | refine za3 rfl ?_)
 refine zak ⟨rfl, _, rfl, ?_⟩
 show Zm _ _ _ _ _ (st 80 _ (zaz 5 _ hp) nx ck) _ _
 unfold zwc l43
 have gm2 : GM (rvE E) m g (zaz 5 (s5, .loop .busy none 80 (zf8 (l43 C gc)) [44, 45] zin ziq (4, s4)) hp) nx :=
  ⟨by rw [za1, if_neg (by decide)]; exact gm.h0, by rw [za1, if_neg (by decide)]; exact gm.h1, by rw [za1, if_neg (by decide)]; exact gm.h2, gm.nx⟩
 have hft := zu0 m hm (rvE E) (zkr hb) w0 N0 k (unF (bsG g) + 1) g (gN C k) ⟨zaz 5 (s5, .loop .busy none 80 (zf8 (l43 C gc)) [44, 45] zin ziq (4, s4)) hp, nx, ck⟩ (y0m _) hG.len hvm gm2
 repeat (first | refine za0 rfl ?_ | refine zab ?_)
 refine zas (id := 2) (sp := 0) (off := 0) rfl gm2.h2 (by omega) rfl ?_
 repeat (first | refine za3 rfl ?_)
 refine o_ct _ rfl rfl (zmy hft) (fun _ _ _ _ hm => absurd hm y0i) fun v H2 hF => ?_
 obtain ⟨D, hV, hM, hK⟩ := hF
 have k4 := hK.look 4 (by decide) (by show 4 < nx; omega)
 have k5 := hK.look 5 (by decide) (by show 5 < nx; omega)
 have k4 : Am.look 4 H2.heap = some (s4, .deferred) := k4.trans (by show Am.look 4 (zaz 5 _ hp) = _; rw [za1, if_neg (by decide)]; exact h4)
 have k5 : Am.look 5 H2.heap = some (s5, .loop .busy none 80 (zf8 (l43 C gc)) [44, 45] zin ziq (4, s4)) := k5.trans (by show Am.look 5 (zaz 5 _ hp) = _; rw [za1, if_pos rfl])
 have hnx2 : 5 < H2.next := y1e (show 5 < nx from hnx) hK.next
 repeat (first | refine za5 ?_ | refine zbl ?_)
 refine zak ⟨80, _, _, zin, ziq, (4, s4), k5, none, rfl, rfl, zjr (k : Int) g D, hG.step hb hC hk hV, ⟨?_, ?_, ?_, ?_⟩, ?_, ?_, hnx2⟩
 ·show Am.look 0 (zaz 5 _ H2.heap) = _
  rw [za1, if_neg (by decide)]; exact hM.h0
 ·show Am.look 1 (zaz 5 _ H2.heap) = _
  rw [za1, if_neg (by decide)]; exact hM.h1
 ·show Am.look 2 (zaz 5 _ H2.heap) = _
  rw [za1, if_neg (by decide)]; exact hM.h2
 ·exact hM.nx
 ·show Am.look 4 (zaz 5 _ H2.heap) = _
  rw [za1, if_neg (by decide)]; exact k4
 ·show Am.look 5 (zaz 5 _ H2.heap) = _
  rw [za1, if_pos rfl]
  rfl
def zkn (o : List Int) (i : Nat) : List Int := ((List.range i).filter fun v => decide (gI o v ≥ 0)).map fun v => ((v : Nat) : Int)
theorem zwd (o : List Int) (i : Nat) : zkn o (i + 1) = if gI o i ≥ 0 then zkn o i ++ [((i : Nat) : Int)] else zkn o i := by
 unfold zkn
 rw [y2k, List.filter_append, y16, y14]
 by_cases h : gI o i ≥ 0
 ·rw [if_pos (decide_eq_true h), if_pos h]
  rfl
 ·rw [if_neg (by rw [decide_eq_true_eq]; exact h), if_neg h, List.filter_nil, List.map_nil, y0r]
theorem zqu (o : List Int) (i : Nat) : (zkn o i).length ≤ i := by
 unfold zkn
 rw [y07]
 exact y0s (y1h ..) (by rw [y0v]; exact y0b _)
def rchV (n : Int) (es : List (Int × Int)) (v : Int) : AV := if zi3 n es [v] = 0 then .tup [vsI (zkn (zgn (es.map fun e => (e.1.toNat, e.2.toNat)) n.toNat v.toNat n.toNat) n.toNat), .int .i64 0] else .tup [.vs [], .int .i64 (zi3 n es [v])]
theorem zwe {m f : Nat} {E : List (Nat × Nat)} (h : zi3 m (zav E) [(f : Int)] = 0) : rchV m (zav E) f = .tup [vsI (zkn (zgn E m f m) m), .int .i64 0] := by
 unfold rchV
 rw [if_pos h, zgj]
 rfl
theorem rchV_err {n : Int} {es : List (Int × Int)} {v : Int} (h : zi3 n es [v] ≠ 0) : rchV n es v = .tup [.vs [], .int .i64 (zi3 n es [v])] := if_neg h
theorem gI_at {o : List Int} {i : Nat} (h : i < o.length) : o[i] = gI o i := by
 unfold gI
 rw [y0c, y06 h]
 rfl
def b13_0 : IC := .seq (.region [oM 26 (.bin .lss (.t 25) (.t 24))] none)
 (.seq (.cond (.t 26) (.skip)
 (.exit 0))
 (.seq (.block 1 (.seq (.region [oT 27 25,
  oM 28 (.idxs 1 (.t 23) (.t 25)),
  oN 29 28,
  oT 9 27,
  oT 10 29] none)
 (.seq (.region [oT 30 10,
  oM 31 (.bin .geq (.t 30) (.c (.int .i64 0)))] none)
 (.cond (.t 31) (.region [oT 32 8,
  oT 33 9,
  oM 34 (.bslice 1 1 [.int .i64 0] [(0, 1, (.t 33))]),
  oM 35 (.append 1 8 [.int .i64 0] (.t 32) (.t 34)),
  oT 8 35] none)
 (.skip)))))
 (.region [oM 36 (.bin .add (.t 25) (.c (.int .i64 1))),
  oT 25 36] none)))
-- pneumatic/digraph.Reach
def ic13 : IC := .seq (.region [oM 2 (.box (.t 0)),
  oM 4 (.mov (.c (.nils))),
  oM 5 (.mov (.c (.int .i64 0)))] none)
 (.seq (.region [oL 12 2 2,
  oT 13 1,
  oM 14 (.bslice 1 1 [.int .i64 0] [(0, 1, (.t 13))]),
  oM 15 (.call (.c (.fn 33 [] [])) [(.t 12), (.t 14)]),
  oT 11 15,
  oM 16 (.extract (.t 11) 0),
  oM 17 (.extract (.t 11) 1),
  oT 6 16,
  oT 7 17] none)
 (.seq (.seq (.region [oT 18 7,
  oM 19 (.bin .neq (.t 18) (.c (.int .i64 0)))] none)
 (.cond (.t 19) (.seq (.region [oT 20 7,
  oM 4 (.mov (.c (.nils))),
  oT 5 20] none)
 (.ret))
 (.skip)))
 (.seq (.region [oM 8 (.mov (.c (.nils)))] none)
 (.seq (.seq (.region [oT 21 6,
  oT 22 1,
  oM 23 (.call (.c (.fn 34 [] [])) [(.t 21), (.t 22)]),
  oM 24 (.len false (.t 23)),
  oM 25 (.mov (.c (.int .i64 0)))] none)
 (.block 0 (.loop b13_0)))
 (.seq (.region [oT 37 8,
  oT 4 37,
  oM 5 (.mov (.c (.int .i64 0)))] none)
 (.ret))))))
theorem fn13 : env0.fn 13 = some ⟨38, ic13, [.t 4, .t 5]⟩ := by kernel_rfl
set_option maxHeartbeats 2000000 in
theorem reach31 (n : Int) (es : List (Int × Int)) (hn : zgc n es = 0 → n ≤ 12) (v : Int) : PF Try.prog 13 [cG n es, .int .i64 v] (rchV n es v) := by
 have p46 := zuz n es [v] (by simp)
 refine zb0 env0_ok fn13 [(0, .agg [.int .i64 n, .vs (cE es)]), (1, .int .i64 v)] (by show 2 ≤ 38; decide) rfl fun w0 N0 => ?_
 unfold ic13
 refine zsr rfl (zcz rfl rfl (za3 rfl (za3 rfl (onu ?_))))
 refine zbm [] [(0, 0, [.int .i64 n, .vs (cE es)])] [(1, .int .i64 v), (2, .vptr [.int .i64 n, .vs (cE es)])] rfl (.cons rfl rfl .nil) .nil (.cons rfl (.same rfl) (.cons rfl (.fptr rfl rfl) .nil)) ?_
 repeat (first | refine za7 ?_ | refine za0 rfl ?_ | refine za3 rfl ?_ | refine zb2 rfl rfl rfl rfl ?_)
 refine o_fsl [[.int .i64 v]] rfl rfl rfl rfl ?_
 refine zb9 rfl rfl p46 noC ?_
 by_cases hg : zi3 n es [v] = 0
 ·obtain ⟨hc, hv⟩ := zuy hg
  obtain ⟨v0, v1⟩ := zpl hv v (by simp)
  have hn := hn hc
  obtain ⟨m, E, rfl, rfl, hm, _, hE, hb⟩ := zit hc
  obtain ⟨f, rfl⟩ := Int.eq_ofNat_of_zero_le v0
  rw [zor hg, zwe hg]
  have p48 := far48 m (by omega) E hb f (by omega)
  have hol := farR_len E m f m
  generalize zgn E m f m = o at *
  have hol2 : (o.map fun z => ([.int .i64 z] : List AV)).length = m := by rw [y07]; exact hol
  repeat (first | refine za7 ?_ | refine za0 rfl ?_ | refine za5 ?_ | refine za4 ?_ | refine zaf ?_ | refine zc7 rfl ?_ | refine za3 rfl ?_ | refine zb5 rfl rfl ?_ | refine zd5 rfl rfl rfl ?_)
  refine zb9 rfl rfl p48 noC ?_
  repeat (first | refine za5 ?_ | refine za4 ?_ | refine zab ?_ | refine za3 rfl ?_ | refine zbo rfl rfl ?_)
  refine z_grow 8 1 rfl ?_
  refine zbv (fun mm S => ∃ i, mm = m - i ∧ i ≤ m ∧ S = st 38 [(8, .ms 0 0 1 0 (zkn o i).length none), (23, vsI o), (24, .int .i64 (m : Nat)), (25, .int .i64 (i : Nat))] [(0, 0, .cells ((zkn o i).map (AV.int .i64)))] 1 1) m
   (zfv [(some (0, 1), [])] [] rfl rfl rfl .nil (.cons rfl .nil .nil) (l' := [(8, .ms 0 0 1 0 0 none), (23, vsI o), (24, .int .i64 ((o.map fun z => ([.int .i64 z] : List AV)).length : Nat)), (25, .int .i64 ((0 : Nat) : Int))]) (.cons rfl (.ms rfl) (.cons rfl (.same rfl) (.cons rfl (.same rfl) (.cons rfl (.same rfl) .nil))))) ⟨0, rfl, y12 _, by rw [hol2]; rfl⟩ ?_
  rintro mm S ⟨i, rfl, hi, rfl⟩
  have hsl := zqu o i
  have hss := zwd o i
  unfold b13_0
  repeat (first | refine za7 ?_ | refine za0 rfl ?_)
  refine zax rfl rfl rfl (fun h3 => ?_) fun h3 => ?_
  ·have hlt : i < m := y1i.1 (of_decide_eq_true h3)
   have w1 : IntKind.wrap .i64 (((i : Nat) : Int) + 1) = ((i + 1 : Nat) : Int) := zam i (by omega)
   have hgt : (o.map fun z => ([.int .i64 z] : List AV))[((i : Nat) : Int).toNat]? = some [.int .i64 (gI o i)] := by
    rw [zei (by omega), gI_at]
   repeat (first | refine za7 ?_ | refine za0 rfl ?_ | refine za5 ?_ | refine za4 ?_ | refine zab ?_ | refine zaf ?_ | refine zc8 rfl ?_ | refine za3 rfl ?_ | refine zad rfl rfl ?_ | refine zb7 rfl rfl (by omega) (by assumption) rfl ?_)
   refine zax rfl rfl rfl (fun h => ?_) fun h => ?_
   ·have h : gI o i ≥ 0 := of_decide_eq_true h
    rw [if_pos h] at hss
    repeat (first | refine za0 rfl ?_ | refine za5 ?_ | refine za4 ?_ | refine zc8 rfl ?_ | refine za3 rfl ?_ | refine zb6 rfl rfl ?_)
    refine ze4 [[.int .i64 (i : Nat)]] rfl rfl (zcr (ys := []) zaq rfl (fun x hx => by obtain rfl := y0e.1 hx; rfl)) (fun h => Nat.noConfusion h) rfl (by decide) (by (repeat (first | rw [za8, if_pos rfl] | rw [za8, if_neg (by omega)])); try rfl) (by rw [y07, Nat.mul_one]) (by show _ + 1 ≤ _; omega) ?_
    repeat (first | refine za0 rfl ?_ | refine za5 ?_ | refine za4 ?_ | refine zbl ?_ | refine za3 rfl ?_ | refine zb1 (op := .add) rfl rfl rfl ?_)
    rw [w1]
    exact zay (show m - (i + 1) < m - i by omega) (zfv [(some (0, 2), (zkn o i ++ [((i : Nat) : Int)]).map (AV.int .i64))] [] rfl rfl rfl .nil (.cons (by rw [za1, if_pos rfl]; rw [y16]; rfl) (.keep (zcm _)) .nil) (l' := [(8, .ms 0 0 1 0 ((zkn o i).length + 1) none), (23, vsI o), (24, .int .i64 (m : Nat)), (25, .int .i64 ((i + 1 : Nat) : Int))]) (.cons rfl (.ms rfl) (.cons rfl (.same rfl) (.cons rfl (.same rfl) (.cons rfl (.same rfl) .nil))))) ⟨i + 1, rfl, hlt, by rw [hss, y0k]; rfl⟩
   ·have h : ¬ gI o i ≥ 0 := of_decide_eq_false h
    rw [if_neg h] at hss
    repeat (first | refine za0 rfl ?_ | refine za5 ?_ | refine za4 ?_ | refine zbl ?_ | refine zaf ?_ | refine zc7 rfl ?_ | refine za3 rfl ?_ | refine zb1 (op := .add) rfl rfl rfl ?_)
    rw [w1]
    exact zay (show m - (i + 1) < m - i by omega) (zaa (.cons rfl (.cons rfl (.cons rfl (.cons rfl .nil))))) ⟨i + 1, rfl, hlt, by rw [hss]⟩
  ·have hi2 : i = m := by
    have : ¬ i < m := fun h => of_decide_eq_false h3 (y1i.2 h)
    omega
   subst hi2
   repeat (first | refine za7 ?_ | refine za5 ?_ | refine za4 ?_ | refine zc7 rfl ?_ | refine zbg ?_ | refine zac ?_)
   refine zdb ?_
   repeat (first | refine za7 ?_ | refine za0 rfl ?_ | refine za5 ?_ | refine za4 ?_ | refine zao ?_ | refine zbf ?_ | refine za3 rfl ?_)
   refine zak ⟨.inr rfl, _, rfl, ?_⟩
   exact congrArg AV.tup (zjk (zd1 (d := 2) (sp := 0) _ rfl rfl) rfl)
 ·rw [zi4 hg, rchV_err hg]
  repeat (first | refine za7 ?_ | refine za0 rfl ?_ | refine za5 ?_ | refine za4 ?_ | refine za3 rfl ?_ | refine zb5 rfl rfl ?_)
  refine zax rfl rfl rfl (fun h => ?_) fun h => absurd (by simpa using h) hg
  repeat (first | refine za7 ?_ | refine za0 rfl ?_ | refine za5 ?_ | refine za4 ?_ | refine zc8 rfl ?_ | refine zao ?_ | refine za9 ?_ | refine za3 rfl ?_)
  exact zak ⟨.inr rfl, _, rfl, rfl⟩
def swE (es : List (Int × Int)) : List (Int × Int) := es.map fun e => (e.2, e.1)
theorem swE_succ {es : List (Int × Int)} {i : Nat} (h : i < es.length) : swE (es.take (i + 1)) = swE (es.take i) ++ [(es[i].2, es[i].1)] := by
 unfold swE
 rw [y1x, y06 h, y16]
 rfl
theorem swE_len (es : List (Int × Int)) (i : Nat) : (swE (es.take i)).length ≤ i := by
 unfold swE
 rw [y07, y2w]
 omega
def Rv (q : List (Int × Int)) (w : AV) (hp : List (Nat × Nat × AObj)) (nx : Nat) : Prop :=
 (q = [] ∧ w = .nils) ∨ ∃ id sp, w = .ms id sp 2 0 q.length none ∧ Am.look id hp = some (sp, .cells (cE q).flatten) ∧ 1 < id ∧ id < nx
structure Rq (n : Int) (q : List (Int × Int)) (v w : AV) (hp : List (Nat × Nat × AObj)) (nx : Nat) : Prop where
 res : Am.look 0 hp = some (0, .cells [.int .i64 0, .nils])
 out : Am.look 1 hp = some (1, .cells [.int .i64 n, v])
 lst : Rv q w hp nx
 nx1 : 1 < nx
section
variable {n : Int} {q : List (Int × Int)} {v w : AV} {hp : List (Nat × Nat × AObj)} {nx : Nat}
theorem Rq.fresh (h : Rq n q v w hp nx) (ck : Nat) (x : AObj) : Rq n q v w ((nx, ck, x) :: hp) (nx + 1) := by
 have h1 := h.nx1
 refine ⟨by rw [za8, if_neg (by omega)]; exact h.res, by rw [za8, if_neg (by omega)]; exact h.out, ?_, by omega⟩
 rcases h.lst with h2 | ⟨id, sp, e, hl, a, b⟩
 ·exact .inl h2
 ·exact .inr ⟨id, sp, e, by rw [za8, if_neg (by omega)]; exact hl, a, by omega⟩
theorem Rq.store (h : Rq n q v w hp nx) (x : AV) : Rq n q x w (zaz 1 (1, .cells [.int .i64 n, x]) hp) nx := by
 refine ⟨by rw [za1, if_neg (by decide)]; exact h.res, by rw [za1, if_pos rfl], ?_, h.nx1⟩
 rcases h.lst with h2 | ⟨id, sp, e, hl, a, b⟩
 ·exact .inl h2
 ·exact .inr ⟨id, sp, e, by rw [za1, if_neg (by omega)]; exact hl, a, b⟩
theorem Rq.fresh2 (h : Rq n q v w hp nx) (ck : Nat) (x : AObj) (y : Nat × AObj) : Rq n q v w (zaz nx y ((nx, ck, x) :: hp)) (nx + 1) := by
 have h0 := h.nx1
 have h1 := h.fresh ck x
 refine ⟨by rw [za1, if_neg (by omega)]; exact h1.res, by rw [za1, if_neg (by omega)]; exact h1.out, ?_, h1.nx1⟩
 rcases h.lst with h2 | ⟨id, sp, e, hl, a, b⟩
 ·exact .inl h2
 ·exact .inr ⟨id, sp, e, by rw [za1, if_neg (by omega), za8, if_neg (by omega)]; exact hl, a, by omega⟩
theorem cE_snoc (q : List (Int × Int)) (x : Int × Int) : (cE q).flatten ++ [[AV.int .i64 x.1, AV.int .i64 x.2]].flatten = (cE (q ++ [x])).flatten := by
 unfold cE
 rw [y16, List.flatten_append]
 rfl
theorem zoe (q : List (Int × Int)) : (cE q).flatten.length = q.length * 2 := by
 induction q with
 | nil => rfl
 | cons e q ih =>
  show ([AV.int .i64 e.1, AV.int .i64 e.2] ++ (cE q).flatten).length = _
  rw [y0k, ih]
  show 2 + q.length * 2 = (q.length + 1) * 2
  omega
theorem Rq.app_new (h : Rq n [] v .nils hp nx) (ck : Nat) (x : Int × Int) : Rq n [x] v (.ms nx ck 2 0 1 none) ((nx, ck, .cells [.int .i64 x.1, .int .i64 x.2]) :: hp) (nx + 1) := by
 have h1 := h.nx1
 exact ⟨by rw [za8, if_neg (by omega)]; exact h.res, by rw [za8, if_neg (by omega)]; exact h.out, .inr ⟨nx, ck, rfl, zaq, h1, y0m _⟩, by omega⟩
theorem Rq.app_old {id sp len : Nat} (h : Rq n q v (.ms id sp 2 0 q.length none) hp nx) (hid : 1 < id) (hn : id < nx) (ck : Nat) (x : Int × Int) : Rq n (q ++ [x]) v (.ms id ck 2 0 (q.length + 1) none) (zaz id (ck, .cells (cE (q ++ [x])).flatten) hp) nx :=
 ⟨by rw [za1, if_neg (by omega)]; exact h.res, by rw [za1, if_neg (by omega)]; exact h.out, .inr ⟨id, ck, by rw [y0k]; rfl, by rw [za1, if_pos rfl], hid, hn⟩, h.nx1⟩
theorem zw0 {w0 : World} {N0 nn d ck : Nat} {k : List Fr} {Q : Exit → AS → Prop} {l : List (Nat × AV)} {ios : List Opr} {bytes j sj : Nat} {x : Int × Int} {z : List AV} {s xa : Arg} (hF : Rq n q v w hp nx) (hlen : q.length ≤ 1000000) (hs : zaw s l = some w) (hx : zaw xa l = some (.ms j sj 2 0 1 (some 1))) (hj : Am.look j hp = some (sj, .cells [.int .i64 x.1, .int .i64 x.2])) (hb : bytes ≤ 16777216)
  (go : ∀ w' hp' nx' ck', Rq n (q ++ [x]) v w' hp' nx' → Om Try.prog w0 N0 none (KnP Try.prog w0 N0) ios (st nn ((d, w') :: l) hp' nx' ck') k Q) :
  Om Try.prog w0 N0 none (KnP Try.prog w0 N0) (⟨some d, .append 2 bytes z s xa, none⟩ :: ios) (st nn l hp nx ck) k Q := by
 have hel : ∀ l, (st nn l hp nx ck []).elems 2 (.ms j sj 2 0 1 (some 1)) = some [[.int .i64 x.1, .int .i64 x.2]] := fun l => zcr (xs := [[.int .i64 x.1, .int .i64 x.2]]) (ys := []) hj rfl fun x hx => by obtain rfl := y0e.1 hx; rfl
 rcases hF.lst with ⟨rfl, rfl⟩ | ⟨id, sp, rfl, hl, h1, h2⟩
 ·have hi : iop (st nn l hp nx ck) (.append 2 bytes z s xa) = some (.ms nx ck 2 0 1 none, st nn l ((nx, ck, .cells [.int .i64 x.1, .int .i64 x.2]) :: hp) (nx + 1) (ck + 1)) := by
   simp only [iop, zal, hs, hx, hel]
   unfold zbi
   rw [if_neg (show ¬ [[AV.int .i64 x.1, AV.int .i64 x.2]].length = 0 from y2x 0), if_pos (show [[AV.int .i64 x.1, AV.int .i64 x.2]].flatten.all AV.isCell = true ∧ bytes ≤ 16777216 from ⟨rfl, hb⟩)]
   rfl
  exact zdl hi (go _ _ _ _ (hF.app_new ck x)) (fun _ _ _ _ _ _ _ => rfl)
 ·refine ze4 [[.int .i64 x.1, .int .i64 x.2]] hs hx (hel _) (fun h => Nat.noConfusion h) rfl hb hl (zoe q).symm (by show _ + 1 ≤ _; omega) ?_ (fun _ _ _ _ _ _ _ => rfl)
  refine go _ _ _ _ ?_
  rw [cE_snoc]
  exact hF.app_old (len := 0) h1 h2 ck x
theorem Rv.cell (h : Rv q w hp nx) : w.isCell = true ∧ w.cells? = some [w] := by
 rcases h with ⟨rfl, rfl⟩ | ⟨id, sp, rfl, hl, _, _⟩
 ·exact ⟨rfl, rfl⟩
 ·exact ⟨rfl, rfl⟩
theorem res_agg {S : AS} {a : Nat} {pa x y : AV} (h1 : S.get a = some pa) (d1 : S.deref pa = some [x, y]) : S.res [.cell a (some 2)] = some (.agg [x, y]) := by
 simp [AS.res, AS.resL, zp5, h1, d1]
theorem Rv.view {S : AS} {d : Nat} (h : Rv q w S.heap nx) : S.view (d + 1) w = .vs (cE q) := by
 rcases h with ⟨rfl, rfl⟩ | ⟨id, sp, rfl, hl, _, _⟩
 ·rfl
 ·have e : S.elems 2 (.ms id sp 2 0 q.length none) = some (cE q) := by
   obtain ⟨n, t, hp, nx, ck, mk⟩ := S
   exact zcr (ys := []) (cap := none) (n := n) (nx := nx) (ck := ck) (mk := mk) (l := []) (hp := hp) (by rw [y0r]; exact hl) (zco q) (fun x hx => by obtain ⟨s, _, rfl⟩ := y0o.1 hx; rfl)
  simp only [AS.view, e]
  congr 1
  unfold cE
  rw [y26]
  apply y24
  intro s _
  cases d <;> rfl
end
def b46_0 : IC := .seq (.region [oM 13 (.bin .lss (.t 12) (.t 11))] none)
 (.seq (.cond (.t 13) (.skip)
 (.exit 0))
 (.seq (.block 1 (.seq (.region [oM 14 (.idxs 2 (.t 10) (.t 12)),
  oL 15 2 14,
  oM 5 (.alloc [.int .i64 0, .int .i64 0]),
  ⟨none, .store 2 (.t 5) (.t 15), none⟩] none)
 (.region [oF 16 1 3,
  oN 17 16,
  oF 18 1 5,
  oN 19 18,
  oF 20 0 5,
  oN 21 20,
  oM 22 (.build [.int .i64 0, .int .i64 0] [(0, 1, (.t 19)), (1, 1, (.t 21))]),
  oM 23 (.bslice 2 1 [.int .i64 0, .int .i64 0] [(0, 2, (.t 22))]),
  oM 24 (.append 2 16 [.int .i64 0, .int .i64 0] (.t 17) (.t 23)),
  oF 25 1 3,
  ⟨none, .store 1 (.t 25) (.t 24), none⟩] none)))
 (.region [oM 26 (.bin .add (.t 12) (.c (.int .i64 1))),
  oT 12 26] none)))
-- pneumatic/digraph.reversed
def ic46 : IC := .seq (.region [oM 1 (.box (.t 0)),
  oM 2 (.alloc [.int .i64 0, .nils])] none)
 (.seq (.region [oF 6 0 1,
  oN 7 6,
  oM 8 (.build [.int .i64 0, .nils] [(0, 1, (.t 7))]),
  oM 3 (.alloc [.int .i64 0, .nils]),
  ⟨none, .store 2 (.t 3) (.t 8), none⟩] none)
 (.seq (.seq (.region [oF 9 1 1,
  oN 10 9,
  oM 11 (.len false (.t 10)),
  oM 12 (.mov (.c (.int .i64 0)))] none)
 (.block 0 (.loop b46_0)))
 (.seq (.region [oL 27 2 3,
  ⟨none, .store 2 (.t 2) (.t 27), none⟩] none)
 (.ret))))
theorem fn46 : env0.fn 46 = some ⟨28, ic46, [.cell 2 (some 2)]⟩ := by kernel_rfl
set_option maxHeartbeats 4000000 in
theorem zkp (n : Int) (es : List (Int × Int)) (he : es.length ≤ 1000000) : PF Try.prog 46 [cG n es] (cG n (swE es)) := by
 have hcl := zco es
 refine zb0 env0_ok fn46 [(0, .agg [.int .i64 n, .vs (cE es)])] (by show 1 ≤ 28; decide) rfl fun w0 N0 => ?_
 unfold ic46
 refine zsr rfl (zcz rfl rfl (zba (onu ?_)))
 refine zbm [(some (1, 1), [.int .i64 0, .nils])] [(0, 0, [.int .i64 n, .vs (cE es)])] [(1, .vptr [.int .i64 n, .vs (cE es)]), (2, .mptr 0 0 0)] rfl (.cons rfl rfl .nil) (.cons rfl (.cons (.same rfl) (.cons (.same rfl) .nil)) .nil) (.cons rfl (.fptr rfl rfl) (.cons rfl (.mptr rfl) .nil)) ?_
 repeat (first | refine za7 ?_ | refine za0 rfl ?_ | refine za5 ?_ | refine za4 ?_ | refine zab ?_ | refine za3 rfl ?_ | refine zad rfl rfl ?_ | refine zb3 rfl rfl rfl rfl rfl rfl rfl ?_ | refine zai rfl rfl rfl ?_ | refine zba ?_ | refine zbo rfl rfl ?_ | refine zbz rfl rfl ?_)
 refine zbv (fun mm S => ∃ i v hp nx ck, mm = es.length - i ∧ i ≤ es.length ∧ Rq n (swE (es.take i)) v v hp nx ∧ S = st 28 [(2, .mptr 0 0 0), (3, .mptr 1 1 0), (10, .vs (cE es)), (11, .int .i64 ((cE es).length : Nat)), (12, .int .i64 (i : Nat))] hp nx ck) es.length
  (zaa (.cons rfl (.cons rfl (.cons rfl (.cons rfl (.cons rfl .nil)))))) ⟨0, .nils, _, _, _, rfl, y12 _, ⟨rfl, rfl, .inl ⟨rfl, rfl⟩, by decide⟩, rfl⟩ ?_
 rintro mm S ⟨i, v, hp, nx, ck, rfl, hi, hF, rfl⟩
 have hql := swE_len es i
 unfold b46_0
 repeat (first | refine za7 ?_ | refine za0 rfl ?_)
 refine zax rfl rfl rfl (fun h3 => ?_) fun h3 => ?_
 ·have hlt : i < es.length := by
   have h4 : ((i : Nat) : Int) < (((cE es).length : Nat) : Int) := of_decide_eq_true h3
   omega
  have w1 : IntKind.wrap .i64 (((i : Nat) : Int) + 1) = ((i + 1 : Nat) : Int) := zam i (by omega)
  have hg := zq0 hlt
  have hs := swE_succ hlt
  generalize es[i].1 = a at *
  generalize es[i].2 = b at *
  repeat (first | refine za7 ?_ | refine za0 rfl ?_ | refine za5 ?_ | refine za4 ?_ | refine zab ?_ | refine zaf ?_ | refine zc8 rfl ?_ | refine zb2 rfl rfl rfl rfl ?_ | refine zba ?_ | refine zb7 rfl rfl (by omega) (by assumption) rfl ?_)
  refine zb3 (id := nx) (sp := ck) (off := 0) rfl rfl rfl rfl zaq rfl rfl ?_
  have hF1 := hF.fresh2 ck (.cells [.int .i64 0, .int .i64 0]) (ck, .cells [.int .i64 a, .int .i64 b])
  have k5 : Am.look nx (zaz nx (ck, AObj.cells [.int .i64 a, .int .i64 b]) ((nx, ck, AObj.cells [.int .i64 0, .int .i64 0]) :: hp)) = some (ck, .cells [.int .i64 a, .int .i64 b]) := by
   rw [za1, if_pos rfl]
  repeat (first | refine za0 rfl ?_ | refine za5 ?_ | refine za4 ?_ | refine zar rfl ?_)
  refine zas (id := 1) (sp := 1) (off := 0 + 1) rfl hF1.out hF1.nx1 rfl ?_
  repeat (first | refine zar rfl ?_)
  refine zas (id := nx) (sp := ck) (off := 0 + 1) rfl k5 (y0m _) rfl ?_
  repeat (first | refine zar rfl ?_)
  refine zas (id := nx) (sp := ck) (off := 0) rfl k5 (y0m _) rfl ?_
  repeat (first | refine zbz rfl rfl ?_ | refine zb6 rfl rfl ?_)
  refine zw0 (x := (b, a)) (hF1.fresh _ (.cells [.int .i64 b, .int .i64 a])) (by omega) rfl rfl zaq (by decide) fun w' hp' nx' ck' hF2 => ?_
  repeat (first | refine zar rfl ?_)
  refine zce (id := 1) (sp := 1) (off := 0 + 1) rfl rfl hF2.lst.cell.2 hF2.out (by simp) hF2.lst.cell.1 ?_
  repeat (first | refine za0 rfl ?_ | refine za5 ?_ | refine za4 ?_ | refine zbl ?_ | refine za3 rfl ?_ | refine zb1 (op := .add) rfl rfl rfl ?_)
  rw [w1]
  exact zay (show es.length - (i + 1) < es.length - i by omega) (zaa (.cons rfl (.cons rfl (.cons rfl (.cons rfl (.cons rfl .nil)))))) ⟨i + 1, w', _, _, _, rfl, hlt, by rw [hs]; exact hF2.store w', rfl⟩
 ·have hie : i = es.length := by
   have h4 : ¬ ((i : Nat) : Int) < (((cE es).length : Nat) : Int) := of_decide_eq_false h3
   omega
  subst hie
  rw [y1k] at hF
  repeat (first | refine za7 ?_ | refine za5 ?_ | refine za4 ?_ | refine zc7 rfl ?_ | refine zbg ?_ | refine zac ?_)
  refine zdb ?_
  repeat (first | refine za7 ?_ | refine za0 rfl ?_ | refine za4 ?_ | refine zbf ?_)
  refine zqn (id := 1) (sp := 1) (off := 0) rfl hF.out hF.nx1 rfl rfl ?_
  refine zb3 (id := 0) (sp := 0) (off := 0) (v := .agg [.int .i64 n, v]) (vs := [.int .i64 n, v]) rfl rfl rfl rfl hF.res rfl (by rw [List.all_cons, List.all_cons, hF.lst.cell.1]; rfl) ?_
  repeat (first | refine za5 ?_ | refine za4 ?_ | refine zao ?_)
  refine zak ⟨.inr rfl, _, res_agg ((zfg 2).trans rfl) (ze8 (sp := 0) (cs := [.int .i64 n, v]) (by show Am.look 0 (zaz 0 _ hp) = _; rw [za1, if_pos rfl]; rfl) (show 0 < nx by have := hF.nx1; omega) rfl), ?_⟩
  have hv : Rv (swE es) v (zaz 0 (0, .cells [.int .i64 n, v]) hp) nx := by
   rcases hF.lst with h2 | ⟨id, sp, e, hl, a, b⟩
   ·exact .inl h2
   ·exact .inr ⟨id, sp, e, by rw [za1, if_neg (by omega)]; exact hl, a, b⟩
  exact congrArg AV.agg (zjk rfl hv.view)
theorem zrd (E : List (Nat × Nat)) : swE (zav E) = zav (rvE E) := by
 unfold swE zav rvE
 rw [y26, y26]
 rfl
def ptN (m : Nat) (E : List (Nat × Nat)) (f t : Nat) : AV := if gI (zgn (rvE E) m t m) f < 0 then .tup [.vs [], .int .i64 6] else .tup [vsI (iL (f :: zhx E m (zgn (rvE E) m t m) (gI (zgn (rvE E) m t m) f).toNat f)), .int .i64 0]
def pthV (n : Int) (es : List (Int × Int)) (f t : Int) : AV := if zi3 n es [f, t] = 0 then ptN n.toNat (es.map fun e => (e.1.toNat, e.2.toNat)) f.toNat t.toNat else .tup [.vs [], .int .i64 (zi3 n es [f, t])]
theorem pthV_ok {m f t : Nat} {E : List (Nat × Nat)} (h : zi3 m (zav E) [(f : Int), (t : Int)] = 0) : pthV m (zav E) f t = ptN m E f t := by
 unfold pthV
 rw [if_pos h, zgj]
 rfl
theorem pthV_err {n : Int} {es : List (Int × Int)} {f t : Int} (h : zi3 n es [f, t] ≠ 0) : pthV n es f t = .tup [.vs [], .int .i64 (zi3 n es [f, t])] := if_neg h
-- pneumatic/digraph.Path
def ic27 : IC := .seq (.region [oM 3 (.box (.t 0)),
  oM 6 (.mov (.c (.nils))),
  oM 7 (.mov (.c (.int .i64 0)))] none)
 (.seq (.region [oL 12 2 3,
  oT 13 1,
  oT 14 2,
  oM 15 (.bslice 1 2 [.int .i64 0, .int .i64 0] [(0, 1, (.t 13)), (1, 1, (.t 14))]),
  oM 16 (.call (.c (.fn 33 [] [])) [(.t 12), (.t 15)]),
  oT 11 16,
  oM 17 (.extract (.t 11) 0),
  oM 18 (.extract (.t 11) 1),
  oT 8 17,
  oT 9 18] none)
 (.seq (.seq (.region [oT 19 9,
  oM 20 (.bin .neq (.t 19) (.c (.int .i64 0)))] none)
 (.cond (.t 20) (.seq (.region [oT 21 9,
  oM 6 (.mov (.c (.nils))),
  oT 7 21] none)
 (.ret))
 (.skip)))
 (.seq (.region [oL 22 2 3,
  oM 23 (.call (.c (.fn 46 [] [])) [(.t 22)]),
  oM 24 (.call (.c (.fn 42 [] [])) [(.t 23)]),
  oT 25 2,
  oM 26 (.call (.c (.fn 34 [] [])) [(.t 24), (.t 25)]),
  oT 10 26] none)
 (.seq (.seq (.region [oT 27 10,
  oT 28 1,
  oM 29 (.idxs 1 (.t 27) (.t 28)),
  oN 30 29,
  oM 31 (.bin .lss (.t 30) (.c (.int .i64 0)))] none)
 (.cond (.t 31) (.seq (.region [oM 6 (.mov (.c (.nils))),
  oM 7 (.mov (.c (.int .i64 6)))] none)
 (.ret))
 (.skip)))
 (.seq (.region [oT 32 8,
  oT 33 1,
  oT 34 2,
  oT 35 10,
  oM 36 (.call (.c (.fn 47 [] [])) [(.t 32), (.t 33), (.t 34), (.t 35)]),
  oT 6 36,
  oM 7 (.mov (.c (.int .i64 0)))] none)
 (.ret))))))
theorem fn27 : env0.fn 27 = some ⟨37, ic27, [.t 6, .t 7]⟩ := by kernel_rfl
set_option maxHeartbeats 2000000 in
theorem path27 (n : Int) (es : List (Int × Int)) (hn : zgc n es = 0 → n ≤ 12) (f t : Int) : PF Try.prog 27 [cG n es, .int .i64 f, .int .i64 t] (pthV n es f t) := by
 have p46 := zuz n es [f, t] (by simp)
 refine zb0 env0_ok fn27 [(0, .agg [.int .i64 n, .vs (cE es)]), (1, .int .i64 f), (2, .int .i64 t)] (by show 3 ≤ 37; decide) rfl fun w0 N0 => ?_
 unfold ic27
 refine zsr rfl (zcz rfl rfl (za3 rfl (za3 rfl (onu ?_))))
 refine zbm [] [(0, 0, [.int .i64 n, .vs (cE es)])] [(1, .int .i64 f), (2, .int .i64 t), (3, .vptr [.int .i64 n, .vs (cE es)])] rfl (.cons rfl rfl .nil) .nil (.cons rfl (.same rfl) (.cons rfl (.same rfl) (.cons rfl (.fptr rfl rfl) .nil))) ?_
 repeat (first | refine za7 ?_ | refine za0 rfl ?_ | refine za3 rfl ?_ | refine zb2 rfl rfl rfl rfl ?_)
 refine o_fsl [[.int .i64 f], [.int .i64 t]] rfl rfl rfl rfl ?_
 refine zb9 rfl rfl p46 noC ?_
 by_cases hg : zi3 n es [f, t] = 0
 ·obtain ⟨hc, hv⟩ := zuy hg
  obtain ⟨f0, f1⟩ := zpl hv f (by simp)
  obtain ⟨t0, t1⟩ := zpl hv t (by simp)
  have hn := hn hc
  obtain ⟨m, E, rfl, rfl, hm, _, hE, hb⟩ := zit hc
  obtain ⟨f, rfl⟩ := Int.eq_ofNat_of_zero_le f0
  obtain ⟨t, rfl⟩ := Int.eq_ofNat_of_zero_le t0
  have f1 : f < m := by omega
  have t1 : t < m := by omega
  rw [zor hg, pthV_ok hg]
  have p47 := zkp (m : Nat) (zav E) (by unfold zav; rw [y07]; omega)
  rw [zrd] at p47
  have p45 := zgq m hm (rvE E) (by rw [zwr]; omega) (zkr hb)
  have p48 := far48 m (by omega) (rvE E) (zkr hb) t t1
  have hL := zlb (es := rvE E) t1 fun u v h => (zkr hb u v h).2
  unfold ptN
  generalize zgn (rvE E) m t m = back at *
  have hgf : (back.map fun z => ([.int .i64 z] : List AV))[((f : Nat) : Int).toNat]? = some [.int .i64 (gI back f)] := by rw [zei (by rw [hL.len]; exact f1), gI_at]
  repeat (first | refine za7 ?_ | refine za0 rfl ?_ | refine za5 ?_ | refine za4 ?_ | refine zaf ?_ | refine zc7 rfl ?_ | refine za3 rfl ?_ | refine zb2 rfl rfl rfl rfl ?_ | refine zb5 rfl rfl ?_ | refine zd5 rfl rfl rfl ?_)
  refine zb9 rfl rfl p47 noC ?_
  refine zb9 rfl rfl p45 noC ?_
  repeat (first | refine za3 rfl ?_)
  refine zb9 rfl rfl p48 noC ?_
  repeat (first | refine za7 ?_ | refine za0 rfl ?_ | refine za5 ?_ | refine za4 ?_ | refine za3 rfl ?_ | refine zad rfl rfl ?_ | refine zb7 rfl rfl (by omega) (by assumption) rfl ?_)
  refine zax rfl rfl rfl (fun h => ?_) fun h => ?_
  ·rw [if_pos (of_decide_eq_true h)]
   repeat (first | refine za7 ?_ | refine za0 rfl ?_ | refine za5 ?_ | refine za4 ?_ | refine zc8 rfl ?_ | refine zao ?_ | refine za9 ?_ | refine za3 rfl ?_)
   exact zak ⟨.inr rfl, _, rfl, rfl⟩
  ·have h : ¬ gI back f < 0 := of_decide_eq_false h
   rw [if_neg h]
   have p49 := led49 m hm E hb f t f1 t1 back hL (by omega)
   repeat (first | refine za7 ?_ | refine za0 rfl ?_ | refine za5 ?_ | refine za4 ?_ | refine zaf ?_ | refine zc7 rfl ?_ | refine za3 rfl ?_)
   refine zb9 rfl rfl p49 noC ?_
   repeat (first | refine za5 ?_ | refine za4 ?_ | refine zao ?_ | refine za3 rfl ?_)
   exact zak ⟨.inr rfl, _, rfl, rfl⟩
 ·rw [zi4 hg, pthV_err hg]
  repeat (first | refine za7 ?_ | refine za0 rfl ?_ | refine za5 ?_ | refine za4 ?_ | refine za3 rfl ?_ | refine zb5 rfl rfl ?_)
  refine zax rfl rfl rfl (fun h => ?_) fun h => absurd (by simpa using h) hg
  repeat (first | refine za7 ?_ | refine za0 rfl ?_ | refine za5 ?_ | refine za4 ?_ | refine zc8 rfl ?_ | refine zao ?_ | refine za9 ?_ | refine za3 rfl ?_)
  exact zak ⟨.inr rfl, _, rfl, rfl⟩
def kys (g : List Int) : Nat → List Int
 | 0 => []
 | i + 1 => if gI g i ∈ kys g i then kys g i else kys g i ++ [gI g i]
theorem zvk (g : List Int) (i : Nat) : gI g i ∈ kys g (i + 1) := by
 rw [kys]
 split
 ·assumption
 ·simp
theorem zqi {g : List Int} {x : Int} {i : Nat} (h : x ∈ kys g i) : x ∈ kys g (i + 1) ∧ (kys g (i + 1)).idxOf x = (kys g i).idxOf x := by
 rw [kys]
 split
 ·exact ⟨h, rfl⟩
 ·exact ⟨y0p _ h, by rw [List.idxOf_append, if_pos h]⟩
theorem zvj (g : List Int) : ∀ i, (kys g i).length ≤ i
 | 0 => y0b _
 | i + 1 => by
  have := zvj g i
  rw [kys]
  split
  ·omega
  ·rw [y0k, y1a]; omega
def zdq : List Int → Nat → List (AV × AV)
 | [], _ => []
 | k :: ks, j => (.int .i64 k, .int .i64 (j : Nat)) :: zdq ks (j + 1)
theorem zje : ∀ (ks : List Int) (j : Nat), (zdq ks j).length = ks.length
 | [], _ => rfl
 | k :: ks, j => by rw [zdq, y0l, y0l, zje ks]
theorem zoq (k : Int) : ∀ (ks : List Int) (j : Nat), zcu .int (.int .i64 k) (zdq ks j) = some (if k ∈ ks then some (.int .i64 ((j + ks.idxOf k : Nat) : Int)) else none)
 | [], j => by rw [if_neg y0i]; rfl
 | x :: ks, j => by
  have ih := zoq k ks (j + 1)
  by_cases e : k = x
  ·subst e
   rw [if_pos (y05 ..), List.idxOf_cons_self]
   show (match (if IntKind.i64 = IntKind.i64 then some (k == k) else none) with | some true => some (some (AV.int .i64 (j : Nat))) | some false => zcu .int (.int .i64 k) (zdq ks (j + 1)) | none => none) = _
   rw [if_pos rfl, beq_self_eq_true]
   rfl
  ·have hm : k ∈ x :: ks ↔ k ∈ ks := ⟨fun h => (y0j.1 h).resolve_left e, y04 _⟩
   show (match (if IntKind.i64 = IntKind.i64 then some (k == x) else none) with | some true => some (some (AV.int .i64 (j : Nat))) | some false => zcu .int (.int .i64 k) (zdq ks (j + 1)) | none => none) = _
   rw [if_pos rfl, show (k == x) = false from beq_eq_false_iff_ne.2 e]
   show zcu .int (.int .i64 k) (zdq ks (j + 1)) = _
   rw [ih]
   by_cases c : k ∈ ks
   ·rw [if_pos c, if_pos (hm.2 c), List.idxOf_cons, show (x == k) = false from beq_eq_false_iff_ne.2 fun h => e h.symm, cond_false]
    congr 3
    omega
   ·rw [if_neg c, if_neg fun h => c (hm.1 h)]
theorem zx1 (k : Int) (v : AV) : ∀ (ks : List Int) (j : Nat), k ∉ ks → zdv .int (.int .i64 k) v (zdq ks j) = some (zdq ks j ++ [(.int .i64 k, v)])
 | [], j, _ => rfl
 | x :: ks, j, h => by
  have ih := zx1 k v ks (j + 1) fun h2 => h (y04 _ h2)
  have e : ¬ k = x := fun e => h (by rw [e]; exact y05 ..)
  show (match (if IntKind.i64 = IntKind.i64 then some (k == x) else none) with | some true => some ((AV.int .i64 k, v) :: zdq ks (j + 1)) | some false => (zdv .int (.int .i64 k) v (zdq ks (j + 1))).map ((AV.int .i64 x, AV.int .i64 (j : Nat)) :: ·) | none => none) = _
  rw [if_pos rfl, show (k == x) = false from beq_eq_false_iff_ne.2 e]
  show (zdv .int (.int .i64 k) v (zdq ks (j + 1))).map _ = _
  rw [ih]
  rfl
theorem zkd : ∀ (ks : List Int) (j : Nat) (k : Int), zdq (ks ++ [k]) j = zdq ks j ++ [(.int .i64 k, .int .i64 ((j + ks.length : Nat) : Int))]
 | [], j, k => rfl
 | x :: ks, j, k => by
  rw [y2g, zdq, zkd ks, zdq, y0l, show j + 1 + ks.length = j + (ks.length + 1) by omega]
  rfl
def zsb (E : List (Nat × Nat)) (m x y : Nat) : Bool := decide (gI (zgn E m x m) y ≥ 0) && decide (gI (zgn E m y m) x ≥ 0)
theorem zcd {E : List (Nat × Nat)} {m x y : Nat} (hb : ∀ u v, (u, v) ∈ E → u < m ∧ v < m) (hx : x < m) (hy : y < m) : zsb E m x y = true ↔ Mut E x y := by
 unfold zsb Mut Rch
 rw [y0h, decide_eq_true_eq, decide_eq_true_eq]
 exact and_congr (ze9 hb hx) (ze9 hb hy)
def rps (E : List (Nat × Nat)) (m i : Nat) : List Nat := (List.range i).filter fun v => (List.range v).all fun u => !zsb E m u v
theorem rps_succ (E : List (Nat × Nat)) (m i : Nat) : rps E m (i + 1) = if ((List.range i).all fun u => !zsb E m u i) = true then rps E m i ++ [i] else rps E m i := by
 unfold rps
 rw [y2k, List.filter_append, y14]
 split
 ·rfl
 ·rw [List.filter_nil, y0r]
def zr0 (E : List (Nat × Nat)) (m v : Nat) : Nat := ((List.range m).find? fun u => zsb E m u v).getD 0
def cmpL (E : List (Nat × Nat)) (m : Nat) : List Int := (List.range m).map fun v => (((rps E m m).idxOf (zr0 E m v) : Nat) : Int)
theorem zjo {E : List (Nat × Nat)} {m v : Nat} (hb : ∀ u v, (u, v) ∈ E → u < m ∧ v < m) (hv : v < m) : Mut E (zr0 E m v) v ∧ zr0 E m v ≤ v ∧ ∀ u, u < zr0 E m v → ¬ Mut E u v := by
 have hself : zsb E m v v = true := (zcd hb hv hv).2 ⟨Rch.refl E v, Rch.refl E v⟩
 unfold zr0
 cases hf : (List.range m).find? fun u => zsb E m u v with
 | none => exact absurd hself (List.find?_eq_none.1 hf v (y0g.2 hv))
 | some r =>
  obtain ⟨h1, h2, h3⟩ := List.find?_range_eq_some.1 hf
  rw [y0g] at h2
  refine ⟨(zcd hb h2 hv).1 h1, Nat.le_of_not_lt fun hlt => ?_, fun u hu mu => ?_⟩
  ·have := h3 v hlt
   rw [hself] at this
   cases this
  ·have hu : u < r := hu
   have := h3 u hu
   rw [(zcd hb (by omega) hv).2 mu] at this
   cases this
theorem ze6 {E : List (Nat × Nat)} {m v : Nat} (hb : ∀ u v, (u, v) ∈ E → u < m ∧ v < m) {i : Nat} (hi : i ≤ m) : v ∈ rps E m i ↔ v < i ∧ ∀ u, u < v → ¬ Mut E u v := by
 unfold rps
 rw [y0t, y0g, y0d]
 constructor
 ·rintro ⟨h1, h2⟩
  refine ⟨h1, fun u hu mu => ?_⟩
  have := h2 u (y0g.2 hu)
  rw [(zcd hb (by omega) (by omega)).2 mu] at this
  cases this
 ·rintro ⟨h1, h2⟩
  refine ⟨h1, fun u hu => ?_⟩
  rw [y0g] at hu
  cases hc : zsb E m u v with
  | false => rfl
  | true => exact absurd ((zcd hb (by omega) (by omega)).1 hc) (h2 u hu)
theorem zgv {E : List (Nat × Nat)} {m v : Nat} (hb : ∀ u v, (u, v) ∈ E → u < m ∧ v < m) {i : Nat} (hi : i ≤ m) (hv : v < i) : zr0 E m v ∈ rps E m i := by
 obtain ⟨h1, h2, h3⟩ := zjo hb (show v < m by omega)
 exact (ze6 hb hi).2 ⟨by omega, fun u hu mu => h3 u hu (mu.trans h1)⟩
theorem zvc {f : Nat → Int} {x : Nat} : ∀ {l : List Nat}, (∀ y ∈ l, f y = f x → y = x) → (l.map f).idxOf (f x) = l.idxOf x
 | [], _ => rfl
 | y :: l, h => by
  rw [y1p, List.idxOf_cons, List.idxOf_cons, zvc fun z hz => h z (y04 _ hz)]
  by_cases e : y = x
  ·rw [e, beq_self_eq_true, beq_self_eq_true]
  ·rw [show (f y == f x) = false from beq_eq_false_iff_ne.2 fun h2 => e (h y (y05 ..) h2), show (y == x) = false from beq_eq_false_iff_ne.2 e]
theorem zos {E : List (Nat × Nat)} {m : Nat} {C : List Nat} {g : List Int} (hC : Cls E m C) (h : Grp E m C 0 g) : ∀ v, v < m → 0 ≤ gI g v := fun v hv => by
 have hm := all_in hC.nd hC.lt (Nat.le_of_eq hC.len.symm) v hv
 obtain ⟨i, h1, h2⟩ := y1j.1 hm
 have := h.done i (y12 _) (by rw [hC.len] at h1; exact h1)
 rw [← gN_at h1, h2] at this
 exact this
theorem zvl {E : List (Nat × Nat)} {m : Nat} {C : List Nat} {g : List Int} (hb : ∀ u v, (u, v) ∈ E → u < m ∧ v < m) (hC : Cls E m C) (h : Grp E m C 0 g) : ∀ i, i ≤ m → kys g i = (rps E m i).map (gI g)
 | 0, _ => rfl
 | i + 1, hi => by
  have ih := zvl hb hC h i (by omega)
  have hall := zos hC h
  have hiff : gI g i ∈ kys g i ↔ ¬ ((List.range i).all fun u => !zsb E m u i) = true := by
   rw [ih, y0o]
   constructor
   ·rintro ⟨u, hu, e⟩ ha
    have hu2 := (ze6 hb (by omega)).1 hu
    have mu := (h.same u i (hall u (by omega)) (hall i (by omega))).1 e
    have := y0d.1 ha u (y0g.2 hu2.1)
    rw [(zcd hb (by omega) (by omega)).2 mu] at this
    cases this
   ·intro ha
    have : ∃ u, u < i ∧ zsb E m u i = true := by
     refine Classical.byContradiction fun hc => ha (y0d.2 fun u hu => ?_)
     cases hb2 : zsb E m u i with
     | false => rfl
     | true => exact absurd ⟨u, y0g.1 hu, hb2⟩ hc
    obtain ⟨u, hu, hmu⟩ := this
    have mu := (zcd hb (by omega) (by omega)).1 hmu
    have r1 := (zjo hb (show u < m by omega))
    exact ⟨zr0 E m u, zgv hb (by omega) hu, (h.same _ i (hall _ (by omega)) (hall i (by omega))).2 (r1.1.trans mu)⟩
  rw [kys, rps_succ]
  by_cases c : ((List.range i).all fun u => !zsb E m u i) = true
  ·rw [if_pos c, if_neg (fun h2 => hiff.1 h2 c), ih, y16]
   rfl
  ·rw [if_neg c, if_pos (hiff.2 c), ih]
theorem cmp_eq {E : List (Nat × Nat)} {m : Nat} {C : List Nat} {g : List Int} (hb : ∀ u v, (u, v) ∈ E → u < m ∧ v < m) (hC : Cls E m C) (h : Grp E m C 0 g) : ((List.range m).map fun v => (((kys g m).idxOf (gI g v) : Nat) : Int)) = cmpL E m ∧ (kys g m).length = (rps E m m).length := by
 have e := zvl hb hC h m (y0b _)
 have hall := zos hC h
 refine ⟨?_, by rw [e, y07]⟩
 unfold cmpL
 refine y24 fun v hv => ?_
 rw [y0g] at hv
 obtain ⟨r1, r2, r3⟩ := zjo hb hv
 have hg : gI g v = gI g (zr0 E m v) := ((h.same _ _ (hall _ (by omega)) (hall v hv)).2 r1).symm
 rw [e, hg, zvc fun y hy e2 => ?_]
 have hy2 := (ze6 hb (y0b m)).1 hy
 have mu := (h.same _ _ (hall y hy2.1) (hall _ (by omega))).1 e2
 have hr2 := (ze6 hb (y0b m)).1 (zgv hb (y0b m) hv)
 rcases Nat.lt_trichotomy y (zr0 E m v) with c | c | c
 ·exact absurd mu (hr2.2 y c)
 ·exact c
 ·exact absurd mu.symm (hy2.2 _ c)
end Go.Proofs.Ytfbeableaihooaa
