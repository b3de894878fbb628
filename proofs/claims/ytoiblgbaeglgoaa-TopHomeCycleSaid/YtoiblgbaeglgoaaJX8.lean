/-
  THE SEARCH FROM HOME: homing.levels.; THE LEVELS: homing.levels, as a whole.; WHAT THE SEARCH FINDS: the lengths of the shortest ways; and what the reference's rounds find is the same.; SAFE SEQUENCES AND HOMINGS, in plain Lean.; WHAT EVERY LAW OF THE SEAT SHARES.; THE REFERENCE's LEVELS: round by round.; THE FIRST STROKE OF A HOMING: homing.Levels, homing.first; the reference's Levels.; THE FIRST
-/
import Derived.Test.YtoiblgbaeglgoaaJX7
import Derived.Test.YtoiblgbaeglgoaaRows
import Derived.JoinedCond
namespace Go.Proofs.Ytoiblgbaeglgoaa
open Go Go.Am
noncomputable def zpk : Code := match env0.fn 96 with
 | some i => ((zbs i.ic)[0]?.getD (.skip, .skip)).1
 | none => .skip
noncomputable def zpm : Code := match env0.fn 96 with
 | some i => ((zbs i.ic)[0]?.getD (.skip, .skip)).2
 | none => .skip
def b96_2 : IC := .seq (.region [oM 36 (.bin .lss (.t 35) (.t 34))] none)
 (.seq (.cond (.t 36) (.skip)
 (.exit 2))
 (.seq (.block 3 (.seq (.region [oM 37 (.idxs 2 (.t 33) (.t 35)),
  oL 38 2 37,
  oM 9 (.alloc [.int .i64 0, .bool false]),
  ⟨none, .store 2 (.t 9) (.t 38), none⟩] none)
 (.seq (.region [oT 39 7,
  oF 40 0 9,
  oN 41 40,
  oM 42 (.bin .shl (.c (.int .i64 1)) (.t 41)),
  oM 43 (.bin .xor (.t 39) (.t 42)),
  oT 10 43] none)
 (.seq (.region [oN 44 5,
  oT 45 10,
  oM 46 (.idxs 1 (.t 44) (.t 45)),
  oN 47 46,
  oM 48 (.bin .lss (.t 47) (.c (.int .i64 0)))] none)
 (.cond (.t 48) (.seq (.region [oN 49 5,
  oT 50 10,
  oN 51 5,
  oT 52 7,
  oM 53 (.idxs 1 (.t 51) (.t 52)),
  oN 54 53,
  oM 55 (.bin .add (.t 54) (.c (.int .i64 1))),
  oM 56 (.idxs 1 (.t 49) (.t 50)),
  ⟨none, .store 1 (.t 56) (.t 55), none⟩] (some [[], [], [], [], [2, 3], [4], [5], [0, 1, 0, 1, 2, 3, 4, 5, 6], [7, 6, 0, 1, 2, 3, 4, 5, 6]]))
 (.region [oN 57 6,
  oT 58 10,
  oM 59 (.call (.c (.fn 141 [] [])) [(.t 57), (.t 58)])] none))
 (.skip))))))
 (.region [oM 60 (.bin .add (.t 35) (.c (.int .i64 1))),
  oT 35 60] none)))
def zrb : IC := .region [oT 7 29] none
def zzu : IC := .block 1 (.seq (.region [oL 30 1 2,
  oN 31 3,
  oT 32 7,
  oM 33 (.call (.c (.fn 101 [] [])) [(.t 30), (.t 31), (.t 32)]),
  oM 34 (.len false (.t 33)),
  oM 35 (.mov (.c (.int .i64 0)))] none)
 (.block 2 (.loop b96_2)))
-- pneumatic/homing.levels
noncomputable def ic96 : IC := .seq (.region [oM 2 (.box (.t 0)),
  oM 3 (.box (.t 1)),
  oM 4 (.mov (.c (.nils)))] none)
 (.seq (.region [oM 11 (.bslice 1 1 [.int .i64 0] [(0, 1, (.c (.int .i64 (-1))))]),
  oN 12 3,
  oM 13 (.bin .shl (.c (.int .i64 1)) (.t 12)),
  oM 14 (.call (.c (.fn 81 [] [])) [(.t 11), (.t 13)]),
  oM 5 (.alloc [.nils]),
  ⟨none, .store 1 (.t 5) (.t 14), none⟩] none)
 (.seq (.seq (.region [oL 15 1 2,
  oN 16 3,
  oM 17 (.call (.c (.fn 95 [] [])) [(.t 16), (.c (.int .i64 0))]),
  oM 18 (.call (.c (.fn 94 [] [])) [(.t 15), (.t 17)]),
  oM 19 (.un .not (.t 18))] (some [[], [], [1], [0, 2, 2], [3]]))
 (.cond (.t 19) (.seq (.region [oN 20 5,
  oT 4 20] none)
 (.ret))
 (.skip)))
 (.seq (.region [oN 21 5,
  oM 22 (.idxs 1 (.t 21) (.c (.int .i64 0))),
  ⟨none, .store 1 (.t 22) (.c (.int .i64 0)), none⟩] none)
 (.seq (.region [oM 23 (.build [.nils] []),
  oM 24 (.box (.t 23)),
  oM 6 (.alloc [.nilp]),
  ⟨none, .store 1 (.t 6) (.t 24), none⟩] none)
 (.seq (.region [oN 25 6,
  oM 26 (.call (.c (.fn 141 [] [])) [(.t 25), (.c (.int .i64 0))])] none)
 (.seq (.seq (.region [oN 27 6,
  oM 28 (.call (.c (.fn 142 [] [])) [(.t 27)])] none)
 (.block 0 (.rangeFunc (.t 28) [29] zpk zpm zrb zzu)))
 (.seq (.region [oN 61 5,
  oT 4 61] none)
 (.ret))))))))
theorem fn96 : env0.fn 96 = some ⟨62, ic96, [.t 4]⟩ := by kernel_rfl
def kI (k : Nat) : AV := .int .i64 (k : Nat)
structure QS (N : Nat) (stt : LoopState) (ltm : List (Nat × AV)) (out : List Int) (q : List Nat) (H : HS) : Prop where
 nx : 8 ≤ H.next
 h7 : Am.look 7 H.heap = some (2, .loop stt none 62 (zcz ltm) [29] zpk zpm (6, 1))
 h6 : Am.look 6 H.heap = some (1, .deferred)
 h0 : Am.look 0 H.heap = some (0, .cells [.ms 1 0 1 0 N (some N)])
 h1 : Am.look 1 H.heap = some (0, .cells (out.map (AV.int .i64)))
 h2 : Am.look 2 H.heap = some (0, .cells [.mptr 3 0 0])
 h5 : Am.look 5 H.heap = some (0, .cells [.mptr 3 0 0])
 hq : ∃ sq off cs, Am.look 3 H.heap = some (0, .cells [.ms 4 sq 1 off q.length none]) ∧ Am.look 4 H.heap = some (sq, .cells cs) ∧ off + q.length ≤ cs.length ∧ (cs.drop off).take q.length = q.map kI
-- (*pneumatic/homing.queue[int]).all$1
def ic161 : IC := .block 0 (.loop (.seq (.seq (.region [oN 4 1,
  oM 5 (.nilchk (.t 4)),
  oF 6 0 5,
  oN 7 6,
  oM 8 (.len false (.t 7)),
  oM 9 (.bin .gtr (.t 8) (.c (.int .i64 0)))] none)
 (.cond (.t 9) (.skip)
 (.exit 0)))
 (.block 1 (.seq (.region [oN 10 1,
  oM 11 (.nilchk (.t 10)),
  oF 12 0 11,
  oN 13 12,
  oM 14 (.idxs 1 (.t 13) (.c (.int .i64 0))),
  oN 15 14,
  oT 3 15] none)
 (.seq (.region [oN 16 1,
  oN 17 1,
  oM 18 (.nilchk (.t 17)),
  oF 19 0 18,
  oN 20 19,
  oM 21 (.slsl 1 (.t 20) (some (.c (.int .i64 1))) none none),
  oM 22 (.nilchk (.t 16)),
  oF 23 0 22,
  ⟨none, .store 1 (.t 23) (.t 21), none⟩] (some [[], [], [1], [2], [3], [4], [0, 0, 1, 2, 3, 4, 5], [6, 0, 1, 2, 3, 4, 5], [7, 5, 0, 1, 2, 3, 4, 5]]))
 (.seq (.region [oT 24 0,
  oT 25 3,
  oM 26 (.call (.t 24) [(.t 25)]),
  oM 27 (.un .not (.t 26))] none)
 (.cond (.t 27) (.ret)
 (.skip))))))))
theorem fn161 : env0.fn 161 = some ⟨28, ic161, []⟩ := by kernel_rfl
theorem zw7 {n k : Nat} {out : List Int} {q : List Nat} (h : BI n (out, k :: q)) : BI n (out, q) ∧ k < 2 ^ n ∧ 0 ≤ out.getD k 0 :=
 ⟨⟨h.len, fun y hy => h.q y (y04 _ hy), h.lo, h.hi, by have := h.ql; simp only [y0n] at this; show q.length ≤ _; omega⟩, h.q k (y05 ..)⟩
theorem zkh {l : List Ex} {n k : Nat} (h1 : 1 ≤ n) (h4 : n ≤ 4) (hk : k < 2 ^ n) : ∀ (ms : List Nat) (s : List Int × List Nat), BI n s → 0 ≤ s.1.getD k 0 → s.2.length + zen s.1 ≤ 2 ^ n →
  BI n (ms.foldl (push n k) s) ∧ (ms.foldl (push n k) s).2.length + zen (ms.foldl (push n k) s).1 = s.2.length + zen s.1
 | [], s, h, _, _ => ⟨h, rfl⟩
 | i :: ms, s, h, h0, hm => by
  obtain ⟨a, b, c⟩ := zoy (i := i) h1 h4 hk h h0 hm
  obtain ⟨d, e⟩ := zkh (l := l) h1 h4 hk ms _ a b (by omega)
  exact ⟨d, e.trans c⟩
set_option maxHeartbeats 4000000 in
theorem range161 {w0 : World} {N0 n : Nat} {l : List Ex} {ltm : List (Nat × AV)} (h1 : 1 ≤ n) (h4 : n ≤ 4)
  (hy : ∀ (out : List Int) (k : Nat) (q : List Nat) (H : HS), BI n (out, q) → k < 2 ^ n → 0 ≤ out.getD k 0 → q.length + zen out ≤ 2 ^ n → QS (2 ^ n) .ready ltm out q H →
   CT Try.prog w0 N0 (.yield 7 2) [.int .i64 (k : Nat)] H fun v H' => v = .bool true ∧ Keep (fun j => j < 8) H H' ∧ QS (2 ^ n) .ready ltm (zff l n k (out, q)).1 (zff l n k (out, q)).2 H')
  (H : HS) (zgb : List Int) (q0 : List Nat) (f : Nat) (hI : QS (2 ^ n) .ready ltm zgb q0 H) (hB : BI n (zgb, q0)) (hm : q0.length + zen zgb ≤ 2 ^ n) (hf : q0.length + zen zgb < f) :
  FT Try.prog w0 N0 161 [.yield 7 2, .mptr 5 0 0] H fun _ H' => Keep (fun j => j < 8) H H' ∧ ∃ q', QS (2 ^ n) .ready ltm (bfs l n f (zgb, q0)) q' H' := by
 refine zep env0_ok fn161 [(0, .yield 7 2), (1, .mptr 5 0 0)] (by show 2 ≤ 28; decide) rfl ?_
 unfold ic161
 refine zac ?_
 refine zbu (fun mm S => ∃ out q H' f', mm = q.length + zen out ∧ mm < f' ∧ BI n (out, q) ∧ mm ≤ 2 ^ n ∧ bfs l n f (zgb, q0) = bfs l n f' (out, q) ∧ QS (2 ^ n) .ready ltm out q H' ∧ Keep (fun j => j < 8) H H' ∧
   S = st 28 [(0, .yield 7 2), (1, .mptr 5 0 0)] H'.heap H'.next H'.clk) (q0.length + zen zgb)
  (zan (.cons rfl (.cons rfl .nil))) ⟨zgb, q0, H, f, rfl, hf, hB, hm, rfl, hI, Keep.refl _ H, rfl⟩ ?_
 rintro mm S ⟨out, q, H', f', rfl, hf', hB', hm', hbf, hI', hK', rfl⟩
 obtain ⟨nx, h7, h6, g0, g1, g2, g5, sq, off, cs, g3, gq, hlen, hcs⟩ := hI'
 refine za8 (zsr rfl ?_)
 refine zbk (sp := 0) rfl g5 (by omega) rfl ?_
 refine zjt rfl (za9 rfl ?_)
 refine zbk (sp := 0) rfl g3 (by omega) rfl ?_
 refine zbd rfl rfl ?_
 cases q with
 | nil =>
  refine zaq rfl rfl rfl (fun h => absurd h (by simp)) fun _ => ?_
  refine onu (zb8 rfl (zbm (zao ?_)))
  refine zcn ?_
  refine zbl ?_
  refine zaf ⟨.inl rfl, _, rfl, hK', [], ?_⟩
  obtain ⟨f2, rfl⟩ : ∃ f2, f' = f2 + 1 := ⟨f' - 1, by omega⟩
  rw [hbf, bfs]
  exact ⟨nx, h7, h6, g0, g1, g2, g5, sq, off, cs, g3, gq, hlen, hcs⟩
 | cons k q =>
  refine zaq rfl rfl rfl (fun _ => ?_) fun h => absurd h (by simp)
  obtain ⟨hBp, hk, hk0⟩ := zw7 hB'
  have hl1 : off + (q.length + 1) ≤ cs.length := hlen
  have hhd : cs[off + (0 : Int).toNat * 1]? = some (.int .i64 (k : Nat)) := by
   have e : ((cs.drop off).take (k :: q).length)[0]? = some (kI k) := by rw [hcs]; rfl
   rw [List.getElem?_take, if_pos (by simp), y12] at e
   exact e
  refine onu (zb4 rfl (zab (zaa (zac (zsr rfl ?_)))))
  refine zbk (sp := 0) rfl g5 (by omega) rfl ?_
  refine zjt rfl (za9 rfl ?_)
  refine zbk (sp := 0) rfl g3 (by omega) rfl ?_
  refine zb3 rfl rfl (by decide) (by simp only [y0n]; omega) ?_
  refine zhi rfl gq (by omega) hhd ?_
  refine za1 rfl (onu (za8 (ziy env0_ok rfl rfl rfl ?_)))
  refine zbk (sp := 0) rfl g5 (by omega) rfl ?_
  refine zbk (sp := 0) rfl g5 (by omega) rfl ?_
  refine zjt rfl (za9 rfl ?_)
  refine zbk (sp := 0) rfl g3 (by omega) rfl ?_
  refine o_slsl rfl rfl rfl rfl rfl (by decide) (by simp only [y0n]; omega) (y2i _) ?_
  refine zjt rfl (za9 rfl ?_)
  refine zad (sp := 0) rfl rfl rfl rfl g3 rfl rfl ?_
  refine onr rfl (za1 rfl (za1 rfl ?_))
  simp only [y0n] at hf' hm'
  refine zsb _ rfl rfl (hy out k q ⟨_, _, _⟩ hBp hk hk0 (by omega) ⟨nx, (by (repeat (first | rw [za0, if_pos rfl] | rw [za0, if_neg (by decide)] | rw [za3, if_neg (by decide)])); all_goals (first | rfl | assumption)), (by (repeat (first | rw [za0, if_pos rfl] | rw [za0, if_neg (by decide)] | rw [za3, if_neg (by decide)])); all_goals (first | rfl | assumption)), (by (repeat (first | rw [za0, if_pos rfl] | rw [za0, if_neg (by decide)] | rw [za3, if_neg (by decide)])); all_goals (first | rfl | assumption)), (by (repeat (first | rw [za0, if_pos rfl] | rw [za0, if_neg (by decide)] | rw [za3, if_neg (by decide)])); all_goals (first | rfl | assumption)), (by (repeat (first | rw [za0, if_pos rfl] | rw [za0, if_neg (by decide)] | rw [za3, if_neg (by decide)])); all_goals (first | rfl | assumption)), (by (repeat (first | rw [za0, if_pos rfl] | rw [za0, if_neg (by decide)] | rw [za3, if_neg (by decide)])); all_goals (first | rfl | assumption)), sq, off + 1, cs, ?_, (by (repeat (first | rw [za0, if_pos rfl] | rw [za0, if_neg (by decide)] | rw [za3, if_neg (by decide)])); all_goals (first | rfl | assumption)), by omega, ?_⟩) (fun _ _ _ _ hm => absurd hm y0d) fun v2 H3 hF3 => ?_
  ·show Am.look 3 (zax 3 _ H'.heap) = _
   rw [za0, if_pos rfl]
   have e : ((q.length + 1 : Nat) : Int).toNat - (1 : Int).toNat = q.length := by omega
   show some (0, AObj.cells [.ms 4 sq 1 (off + 1) (((q.length + 1 : Nat) : Int).toNat - (1 : Int).toNat) none]) = _
   rw [e]
  ·have e : ((cs.drop off).take (q.length + 1)).drop 1 = (q.map kI) := by
    have := congrArg (List.drop 1) hcs
    exact this
   rw [List.drop_take, List.drop_drop] at e
   exact e
  obtain ⟨rfl, hK3, hI3⟩ := hF3
  obtain ⟨hv1, hv2⟩ := zkh (l := l) h1 h4 hk (mv l n k) (out, q) hBp hk0 (by show q.length + zen out ≤ _; omega)
  obtain ⟨f2, rfl⟩ : ∃ f2, f' = f2 + 1 := ⟨f' - 1, by omega⟩
  have hvm : (zff l n k (out, q)).2.length + zen (zff l n k (out, q)).1 = q.length + zen out := hv2
  have hKK : Keep (fun j => j < 8) H H3 := by
   refine Keep.trans (H' := ⟨zax 3 (0, AObj.cells (setAt 0 [AV.ms 4 sq 1 off (q.length + 1) none] [.ms 4 sq 1 (off + (1 : Int).toNat * 1) (((q.length + 1 : Nat) : Int).toNat - (1 : Int).toNat) none])) H'.heap, H'.next, H'.clk⟩) ?_ hK3
   refine ⟨hK'.next, hK'.clk, fun j hj hj2 => ?_⟩
   show Am.look j (zax 3 _ H'.heap) = _
   rw [za0, if_neg (by omega)]
   exact hK'.look j hj hj2
  refine zfr rfl rfl (onu (zb8 rfl (zab (zb7 ?_))))
  exact zav (show (zff l n k (out, q)).2.length + zen (zff l n k (out, q)).1 < (k :: q).length + zen out by rw [hvm, y0n]; omega) (zan (.cons rfl (.cons rfl .nil))) ⟨_, _, H3, f2, rfl, by omega, hv1, by omega, hbf, hI3, hKK, rfl⟩
def l96 (l : List Ex) (n : Nat) : List (Nat × AV) := [(2, .vptr [.vs (cXs l)]), (3, .vptr [.int .i64 (n : Nat)]), (5, .mptr 0 0 0), (6, .mptr 2 0 0), (28, .fn 161 [] [.mptr 5 0 0])]
set_option maxHeartbeats 8000000 in
theorem yield96 {w0 : World} {N0 n : Nat} {l : List Ex} (hsl : ∀ y ∈ l, Slim y) (h1 : 1 ≤ n) (h4 : n ≤ 4) (hg : zcc l n = 0) (ha : Com Try.prog zpk zrb) (hb : Com Try.prog zpm zzu)
  (out : List Int) (k : Nat) (q : List Nat) (H : HS) (hBI : BI n (out, q)) (hk : k < 2 ^ n) (hk0 : 0 ≤ out.getD k 0) (hm : q.length + zen out ≤ 2 ^ n) (hQ : QS (2 ^ n) .ready (l96 l n) out q H) :
  CT Try.prog w0 N0 (.yield 7 2) [.int .i64 (k : Nat)] H fun v H' => v = .bool true ∧ Keep (fun j => j < 8) H H' ∧ QS (2 ^ n) .ready (l96 l n) (zff l n k (out, q)).1 (zff l n k (out, q)).2 H' := by
 obtain ⟨nx, h7, h6, g0, g1, g2, g5, hq⟩ := hQ
 have hbl := zca n k
 have hib := zfx h1 h4 hk
 have hmv := zu1 l hsl (zbw n k) (by rw [hbl]; exact h1) (by rw [hbl]; exact h4) (by rw [hbl]; exact hg)
 rw [hbl, hib, zu3] at hmv
 have hml : (cSs ((mv l n k).map fun i => ⟨(i : Nat), !((zbw n k).getD i false)⟩)).length = (mv l n k).length := by rw [zc3, y09]
 have hmn : (mv l n k).length ≤ n := by
  have := List.length_filter_le (fun i => zqe l (zbw n k) i) (List.range n)
  rwa [y20] at this
 have hp4 := pow4 h4
 refine zi1 (l0 := (29, .int .i64 (k : Nat)) :: l96 l n) h7 ha hb rfl (by decide) rfl ?_
 unfold zrb
 refine za5 rfl (za1 rfl (zai ?_))
 refine zaf ⟨rfl, _, rfl, ?_⟩
 unfold zzu l96
 refine zac (zsr rfl (zam rfl rfl rfl rfl (za7 rfl rfl (za1 rfl ?_))))
 refine zap rfl rfl hmv noC ?_
 refine zbd rfl rfl (za1 rfl (onu (zac ?_)))
 rw [hml]
 refine zbu (fun mm S => ∃ j out' q' H', mm = (mv l n k).length - j ∧ j ≤ (mv l n k).length ∧ zff l n k (out, q) = ((mv l n k).drop j).foldl (push n k) (out', q') ∧ BI n (out', q') ∧ 0 ≤ out'.getD k 0 ∧ q'.length + zen out' ≤ 2 ^ n ∧
   QS (2 ^ n) .busy (l96 l n) out' q' H' ∧ Keep (fun j => j < 8) H H' ∧
   S = st 62 [(5, .mptr 0 0 0), (6, .mptr 2 0 0), (7, .int .i64 (k : Nat)), (33, .vs (cSs ((mv l n k).map fun i => ⟨(i : Nat), !((zbw n k).getD i false)⟩))), (34, .int .i64 ((mv l n k).length : Nat)), (35, .int .i64 (j : Nat))] H'.heap H'.next H'.clk) (mv l n k).length
  (zan (l' := [(5, .mptr 0 0 0), (6, .mptr 2 0 0), (7, .int .i64 (k : Nat)), (33, .vs (cSs ((mv l n k).map fun i => ⟨(i : Nat), !((zbw n k).getD i false)⟩))), (34, .int .i64 ((mv l n k).length : Nat)), (35, .int .i64 ((0 : Nat) : Int))]) (.cons rfl (.cons rfl (.cons rfl (.cons rfl (.cons rfl (.cons rfl .nil)))))))
  ⟨0, out, q, ⟨zax 7 (2, .loop .busy none 62 (zcz (l96 l n)) [29] zpk zpm (6, 1)) H.heap, H.next, H.clk⟩, rfl, y0t _, rfl, hBI, hk0, hm, ⟨nx, by show Am.look 7 (zax 7 _ _) = _; rw [za0, if_pos rfl], (by (repeat (first | rw [za0, if_pos rfl] | rw [za0, if_neg (by decide)] | rw [za3, if_neg (by decide)])); all_goals (first | rfl | assumption)), (by (repeat (first | rw [za0, if_pos rfl] | rw [za0, if_neg (by decide)] | rw [za3, if_neg (by decide)])); all_goals (first | rfl | assumption)), (by (repeat (first | rw [za0, if_pos rfl] | rw [za0, if_neg (by decide)] | rw [za3, if_neg (by decide)])); all_goals (first | rfl | assumption)), (by (repeat (first | rw [za0, if_pos rfl] | rw [za0, if_neg (by decide)] | rw [za3, if_neg (by decide)])); all_goals (first | rfl | assumption)), (by (repeat (first | rw [za0, if_pos rfl] | rw [za0, if_neg (by decide)] | rw [za3, if_neg (by decide)])); all_goals (first | rfl | assumption)), ?_⟩, ⟨y0c _, y0c _, fun j hj _ => ?_⟩, rfl⟩ ?_
 ·obtain ⟨sq, off, cs, a, b, c⟩ := hq
  exact ⟨sq, off, cs, (by (repeat (first | rw [za0, if_pos rfl] | rw [za0, if_neg (by decide)] | rw [za3, if_neg (by decide)])); all_goals (first | rfl | assumption)), (by (repeat (first | rw [za0, if_pos rfl] | rw [za0, if_neg (by decide)] | rw [za3, if_neg (by decide)])); all_goals (first | rfl | assumption)), c⟩
 ·show Am.look j (zax 7 _ H.heap) = _
  rw [za0, if_neg (by omega)]
 rintro mm S ⟨j, out', q', H', rfl, hj, hvis, hB', hk0', hm', hQ', hK', rfl⟩
 obtain ⟨nx', i7, i6, i0, i1, i2, i5, sq, off, cs, i3, iq, hlen, hcs⟩ := hQ'
 unfold b96_2
 refine zsr rfl ?_
 refine zaq rfl rfl rfl (fun h3 => ?_) fun h3 => ?_
 ·have hlt : j < (mv l n k).length := by
   have := of_decide_eq_true h3
   omega
  have hi := zz9 (y0y hlt)
  rw [y0g hlt, List.foldl_cons] at hvis
  have hge : (cSs ((mv l n k).map fun i => ⟨(i : Nat), !((zbw n k).getD i false)⟩))[((j : Nat) : Int).toNat]? = some [.int .i64 ((mv l n k)[j] : Nat), .bool (!((zbw n k).getD (mv l n k)[j] false))] := by
   have := zdo (l := (mv l n k).map fun i => (⟨(i : Nat), !((zbw n k).getD i false)⟩ : Sk)) (i := j) (by rw [y09]; exact hlt)
   rw [List.getElem_map] at this
   exact this
  generalize (mv l n k)[j] = i at hi hvis hge
  have hy := zmz (k := k) (i := i) h1 h4
  have hx := xorE (e := zbw n k) (by rw [hbl]; exact h1) (by rw [hbl]; exact h4) (by rw [hbl]; exact hi)
  rw [hib, show zd9 (zcq (zbw n k) i) = nxt n k i from rfl] at hx
  have hol := hB'.len
  have hol : out'.length = 2 ^ n := hol
  have hgy : (out'.map (AV.int .i64))[0 + ((nxt n k i : Nat) : Int).toNat * 1]? = some (.int .i64 (out'.getD (nxt n k i) 0)) := by
   rw [show 0 + ((nxt n k i : Nat) : Int).toNat * 1 = nxt n k i from by omega, y0i, y06, y07 (by omega)]
   rfl
  have hgk : (out'.map (AV.int .i64))[0 + ((k : Nat) : Int).toNat * 1]? = some (.int .i64 (out'.getD k 0)) := by
   rw [show 0 + ((k : Nat) : Int).toNat * 1 = k from by omega, y0i, y06, y07 (by omega)]
   rfl
  have hp := zoy (i := i) h1 h4 hk hB' hk0' hm'
  refine onu (za8 (zb4 rfl (zab (zaa (za8 (zac (zsr rfl (zbh rfl rfl (by omega) (by assumption) rfl (zam rfl rfl rfl rfl (zau ?_))))))))))
  refine zad (sp := H'.clk) rfl rfl rfl rfl zar rfl rfl ?_
  rw [zbr]
  refine onr rfl (za1 rfl (za9 rfl ?_))
  refine zbk (sp := H'.clk) rfl zar (y0k _) rfl ?_
  refine zb6 (op := .shl) rfl rfl (shl1 (show i < 4 by omega)) ?_
  refine zb6 (op := .xor) rfl rfl hx ?_
  refine za1 rfl (onr rfl ?_)
  have z0 := (zaz (v := (H'.clk, AObj.cells [.int .i64 (i : Nat), .bool (!((zbw n k).getD i false))])) (hp := H'.heap) (show 0 < H'.next by omega)).trans i0
  have z1 := (zaz (v := (H'.clk, AObj.cells [.int .i64 (i : Nat), .bool (!((zbw n k).getD i false))])) (hp := H'.heap) (show 1 < H'.next by omega)).trans i1
  have z2 := (zaz (v := (H'.clk, AObj.cells [.int .i64 (i : Nat), .bool (!((zbw n k).getD i false))])) (hp := H'.heap) (show 2 < H'.next by omega)).trans i2
  have z3 := (zaz (v := (H'.clk, AObj.cells [.int .i64 (i : Nat), .bool (!((zbw n k).getD i false))])) (hp := H'.heap) (show 3 < H'.next by omega)).trans i3
  have z4 := (zaz (v := (H'.clk, AObj.cells [.int .i64 (i : Nat), .bool (!((zbw n k).getD i false))])) (hp := H'.heap) (show 4 < H'.next by omega)).trans iq
  have z5 := (zaz (v := (H'.clk, AObj.cells [.int .i64 (i : Nat), .bool (!((zbw n k).getD i false))])) (hp := H'.heap) (show 5 < H'.next by omega)).trans i5
  have z6 := (zaz (v := (H'.clk, AObj.cells [.int .i64 (i : Nat), .bool (!((zbw n k).getD i false))])) (hp := H'.heap) (show 6 < H'.next by omega)).trans i6
  have z7 := (zaz (v := (H'.clk, AObj.cells [.int .i64 (i : Nat), .bool (!((zbw n k).getD i false))])) (hp := H'.heap) (show 7 < H'.next by omega)).trans i7
  refine zbk (sp := 0) rfl z0 (by omega) rfl ?_
  refine za1 rfl (zb3 rfl rfl (by omega) (by omega) ?_)
  refine zhi rfl z1 (by omega) hgy ?_
  refine zaq rfl rfl rfl (fun h => ?_) fun h => ?_
  ·have hneg : out'.getD (nxt n k i) 0 < 0 := of_decide_eq_true h
   have hpe : push n k (out', q') i = (out'.set (nxt n k i) (out'.getD k 0 + 1), q' ++ [nxt n k i]) := if_pos hneg
   rw [hpe] at hp hvis
   obtain ⟨hp1, hp2, hp3⟩ := hp
   have hkh := hB'.hi _ (zk0 (y := k) (by show k < out'.length; omega))
   have hkh : out'.getD k 0 + zen out' + 1 ≤ ((2 ^ n : Nat) : Int) := hkh
   refine onu (zb4 rfl (za8 (ziy env0_ok rfl rfl rfl ?_)))
   refine zbk (sp := 0) rfl z0 (by omega) rfl ?_
   refine za1 rfl ?_
   refine zbk (sp := 0) rfl z0 (by omega) rfl ?_
   refine za1 rfl (zb3 rfl rfl (by omega) (by omega) ?_)
   refine zhi rfl z1 (by omega) hgk ?_
   refine zb6 (op := .add) rfl rfl rfl (zb3 rfl rfl (by omega) (by omega) ?_)
   rw [zjn _ (by omega) (by omega)]
   refine ze0 rfl rfl rfl z1 (by rw [y09]; omega) rfl ?_
   refine onR rfl ?_
   refine zbk (sp := 0) rfl (by (repeat (first | rw [za0, if_pos rfl] | rw [za0, if_neg (by decide)] | rw [za3, if_neg (by decide)])); all_goals (first | rfl | assumption)) (by omega) rfl ?_
   refine za1 rfl ?_
   have hset : (out'.map (AV.int .i64)).set (0 + ((nxt n k i : Nat) : Int).toNat * 1) (.int .i64 (out'.getD k 0 + 1)) = (out'.set (nxt n k i) (out'.getD k 0 + 1)).map (AV.int .i64) := by
    rw [show 0 + ((nxt n k i : Nat) : Int).toNat * 1 = nxt n k i from by omega, List.map_set]
   rw [hset]
   refine zsb _ rfl rfl (zva (put141 (a := 3) (sa := 0) (qid := 4) (sq := sq) (off := off) (len := q'.length) (cs := cs) _ ⟨_, _, _⟩ (by (repeat (first | rw [za0, if_pos rfl] | rw [za0, if_neg (by decide)] | rw [za3, if_neg (by decide)])); all_goals (first | rfl | assumption)) (show 3 < H'.next + 1 by omega) (by (repeat (first | rw [za0, if_pos rfl] | rw [za0, if_neg (by decide)] | rw [za3, if_neg (by decide)])); all_goals (first | rfl | assumption)) (by decide) hlen (by omega))) (fun _ _ _ _ hm => absurd hm y0d) fun v2 H4 hF4 => ?_
   subst hF4
   refine zai (zb7 (zaa (za5 rfl (zb6 (op := .add) rfl rfl rfl (za1 rfl (zai ?_))))))
   rw [zas j (by omega)]
   refine zav (show (mv l n k).length - (j + 1) < (mv l n k).length - j by omega) (zan (.cons rfl (.cons rfl (.cons rfl (.cons rfl (.cons rfl (.cons rfl .nil))))))) ⟨j + 1, _, _, ⟨_, _, _⟩, rfl, hlt, hvis, hp1, hp2, y0q (Nat.le_of_eq hp3) hm', ⟨by show 8 ≤ H'.next + 1; omega, (by (repeat (first | rw [za0, if_pos rfl] | rw [za0, if_neg (by decide)] | rw [za3, if_neg (by decide)])); all_goals (first | rfl | assumption)), (by (repeat (first | rw [za0, if_pos rfl] | rw [za0, if_neg (by decide)] | rw [za3, if_neg (by decide)])); all_goals (first | rfl | assumption)), (by (repeat (first | rw [za0, if_pos rfl] | rw [za0, if_neg (by decide)] | rw [za3, if_neg (by decide)])); all_goals (first | rfl | assumption)), (by (repeat (first | rw [za0, if_pos rfl] | rw [za0, if_neg (by decide)] | rw [za3, if_neg (by decide)])); all_goals (first | rfl | assumption)), (by (repeat (first | rw [za0, if_pos rfl] | rw [za0, if_neg (by decide)] | rw [za3, if_neg (by decide)])); all_goals (first | rfl | assumption)), (by (repeat (first | rw [za0, if_pos rfl] | rw [za0, if_neg (by decide)] | rw [za3, if_neg (by decide)])); all_goals (first | rfl | assumption)), H'.clk + 1, 0, (cs.drop off).take q'.length ++ [.int .i64 (nxt n k i : Nat)], ?_, ?_, ?_, ?_⟩, ⟨by have := hK'.next; show H.next ≤ H'.next + 1; omega, by have := hK'.clk; show H.clk ≤ H'.clk + 1 + 1; omega, fun j hj hj2 => ?_⟩, rfl⟩
   ·show Am.look 3 (zax 3 _ _) = _
    rw [za0, if_pos rfl, y0j]
    rfl
   ·show Am.look 4 (zax 3 _ (zax 4 _ _)) = _
    rw [za0, if_neg (by decide), za0, if_pos rfl]
   ·rw [hcs, y0j, y0j, y09]
    show 0 + (q'.length + 1) ≤ q'.length + 1
    omega
   ·rw [hcs, y14, y22]
    exact y1f (by rw [y0j, y09, y0j]; exact y0c _)
   ·dsimp only
    rw [za0, if_neg (by omega), za0, if_neg (by omega), za0, if_neg (by omega), zaz (by have := hK'.next; omega)]
    exact hK'.look j hj hj2
  ·have hneg : ¬ out'.getD (nxt n k i) 0 < 0 := of_decide_eq_false h
   have hpe : push n k (out', q') i = (out', q') := if_neg hneg
   rw [hpe] at hp hvis
   refine onu (zb8 rfl (zab (zb7 (zaa (za5 rfl (zb6 (op := .add) rfl rfl rfl (za1 rfl (zai ?_))))))))
   rw [zas j (by omega)]
   refine zav (show (mv l n k).length - (j + 1) < (mv l n k).length - j by omega) (zan (.cons rfl (.cons rfl (.cons rfl (.cons rfl (.cons rfl (.cons rfl .nil))))))) ⟨j + 1, _, _, ⟨_, _, _⟩, rfl, hlt, hvis, hB', hk0', hm', ⟨by show 8 ≤ H'.next + 1; omega, z7, z6, z0, z1, z2, z5, sq, off, cs, z3, z4, hlen, hcs⟩, ⟨by have := hK'.next; show H.next ≤ H'.next + 1; omega, by have := hK'.clk; show H.clk ≤ H'.clk + 1; omega, fun j hj hj2 => ?_⟩, rfl⟩
   show Am.look j (_ :: H'.heap) = _
   rw [zaz (by have := hK'.next; omega)]
   exact hK'.look j hj hj2
 ·have hi2 : j = (mv l n k).length := by
   have := of_decide_eq_false h3
   omega
  subst hi2
  rw [y0s, List.foldl_nil] at hvis
  rw [hvis]
  refine onu (za8 (zb8 rfl (zbm (zao ?_))))
  refine zcn ?_
  refine zbl (zb7 ?_)
  refine zaf ⟨62, zcz (l96 l n), [29], zpk, zpm, (6, 1), i7, none, rfl, rfl, ⟨hK'.next, hK'.clk, fun j hj hj2 => ?_⟩, nx', ?_, (by (repeat (first | rw [za0, if_pos rfl] | rw [za0, if_neg (by decide)] | rw [za3, if_neg (by decide)])); all_goals (first | rfl | assumption)), (by (repeat (first | rw [za0, if_pos rfl] | rw [za0, if_neg (by decide)] | rw [za3, if_neg (by decide)])); all_goals (first | rfl | assumption)), (by (repeat (first | rw [za0, if_pos rfl] | rw [za0, if_neg (by decide)] | rw [za3, if_neg (by decide)])); all_goals (first | rfl | assumption)), (by (repeat (first | rw [za0, if_pos rfl] | rw [za0, if_neg (by decide)] | rw [za3, if_neg (by decide)])); all_goals (first | rfl | assumption)), (by (repeat (first | rw [za0, if_pos rfl] | rw [za0, if_neg (by decide)] | rw [za3, if_neg (by decide)])); all_goals (first | rfl | assumption)), sq, off, cs, (by (repeat (first | rw [za0, if_pos rfl] | rw [za0, if_neg (by decide)] | rw [za3, if_neg (by decide)])); all_goals (first | rfl | assumption)), (by (repeat (first | rw [za0, if_pos rfl] | rw [za0, if_neg (by decide)] | rw [za3, if_neg (by decide)])); all_goals (first | rfl | assumption)), hlen, hcs⟩
  ·show Am.look j (zax 7 _ H'.heap) = _
   rw [za0, if_neg (by omega)]
   exact hK'.look j hj hj2
  ·show Am.look 7 (zax 7 _ _) = _
   rw [za0, if_pos rfl]
   rfl
def own81 : List (List AV × List AV) := [([.vs [[.int .i64 (-1)]], .int .i64 2], [.int .i64 (-1), .int .i64 (-1)]), ([.vs [[.int .i64 (-1)]], .int .i64 4], [.int .i64 (-1), .int .i64 (-1), .int .i64 (-1), .int .i64 (-1)]),
 ([.vs [[.int .i64 (-1)]], .int .i64 8], [.int .i64 (-1), .int .i64 (-1), .int .i64 (-1), .int .i64 (-1), .int .i64 (-1), .int .i64 (-1), .int .i64 (-1), .int .i64 (-1)]),
 ([.vs [[.int .i64 (-1)]], .int .i64 16], [.int .i64 (-1), .int .i64 (-1), .int .i64 (-1), .int .i64 (-1), .int .i64 (-1), .int .i64 (-1), .int .i64 (-1), .int .i64 (-1), .int .i64 (-1), .int .i64 (-1), .int .i64 (-1), .int .i64 (-1), .int .i64 (-1), .int .i64 (-1), .int .i64 (-1), .int .i64 (-1)])]
theorem zk6 : zqh Try.prog (env0.tab [] []) 80 81 some own81 = true := by kernel_rfl
theorem rep81 {n : Nat} (h1 : 1 ≤ n) (h4 : n ≤ 4) : PFo Try.prog 81 [vsI [-1], .int .i64 ((2 ^ n : Nat) : Int)] 1 (2 ^ n) (some (2 ^ n)) ((List.replicate (2 ^ n) (-1)).map (AV.int .i64)) := by
 rcases (show n = 1 ∨ n = 2 ∨ n = 3 ∨ n = 4 by omega) with rfl | rfl | rfl | rfl
 ·exact ze1 (env0_ok.tab TabOk.nil) zk6 _ (y05 ..)
 ·exact ze1 (env0_ok.tab TabOk.nil) zk6 _ (y04 _ (y05 ..))
 ·exact ze1 (env0_ok.tab TabOk.nil) zk6 _ (y04 _ (y04 _ (y05 ..)))
 ·exact ze1 (env0_ok.tab TabOk.nil) zk6 _ (y04 _ (y04 _ (y04 _ (y05 ..))))
theorem shl4 {i : Nat} (h : i ≤ 4) : Am.binOp .shl (.int .i64 1) (.int .i64 (i : Nat)) = some (.int .i64 ((2 ^ i : Nat) : Int)) := by
 rcases (show i = 0 ∨ i = 1 ∨ i = 2 ∨ i = 3 ∨ i = 4 by omega) with rfl | rfl | rfl | rfl | rfl <;> rfl
theorem zr0 {S : AS} {d id sp len : Nat} {cap : Option Nat} (a : List Int) (hn : a.length = len) (hl : Am.look id S.heap = some (sp, .cells (a.map (AV.int .i64)))) : S.view (d + 1) (.ms id sp 1 0 len cap) = vsI a := by
 subst hn
 have e : S.elems 1 (.ms id sp 1 0 a.length cap) = some (a.map fun z => ([.int .i64 z] : List AV)) := by
  obtain ⟨n, t, hp, nx, ck, mk⟩ := S
  exact zd7 (ys := []) (cap := cap) (n := n) (nx := nx) (ck := ck) (mk := mk) (l := []) (hp := hp) (by rw [y0p, ← zpx]; exact hl) (y09 ..) (fun x hx => by obtain ⟨s, _, rfl⟩ := y0o.1 hx; rfl)
 simp only [AS.view, e]
 unfold vsI
 congr 1
 rw [y1y]
 apply y1w
 intro s _
 cases d <;> rfl
theorem bfs_BI (l : List Ex) {n : Nat} (h1 : 1 ≤ n) (h4 : n ≤ 4) : ∀ (f : Nat) (s : List Int × List Nat), BI n s → s.2.length + zen s.1 ≤ 2 ^ n → (bfs l n f s).length = 2 ^ n
 | 0, s, h, _ => h.len
 | f + 1, (out, []), h, _ => h.len
 | f + 1, (out, k :: q), h, hm => by
  obtain ⟨hBp, hk, hk0⟩ := zw7 h
  simp only [y0n] at hm
  obtain ⟨a, b⟩ := zkh (l := l) h1 h4 hk (mv l n k) (out, q) hBp hk0 (by show q.length + zen out ≤ _; omega)
  exact bfs_BI l h1 h4 f _ a (by have b : (zff l n k (out, q)).2.length + zen (zff l n k (out, q)).1 = q.length + zen out := b; show (zff l n k (out, q)).2.length + zen (zff l n k (out, q)).1 ≤ _; omega)
theorem zu6 : ∀ m : Nat, zen (List.replicate m (-1)) = m
 | 0 => rfl
 | m + 1 => by
  have := zu6 m
  unfold zen at this ⊢
  rw [y25, y1m, if_pos (by decide), y0n, this]
def zgb (n : Nat) : List Int := (List.replicate (2 ^ n) (-1)).set 0 0
theorem zp2 {n : Nat} (h1 : 1 ≤ n) : BI n (zgb n, [0]) ∧ ([0] : List Nat).length + zen (zgb n) = 2 ^ n := by
 obtain ⟨m, hm⟩ : ∃ m, 2 ^ n = m + 1 := ⟨2 ^ n - 1, by have := Nat.two_pow_pos n; omega⟩
 have e : zgb n = 0 :: List.replicate m (-1) := by unfold zgb; rw [hm, y25, List.set_cons_zero]
 have hn : zen (zgb n) = m := by
  rw [e]
  have := zu6 m
  unfold zen at this ⊢
  rw [y1m, if_neg (by decide), this]
 have _ := h1
 refine ⟨⟨?_, fun y hy => ?_, fun v hv => ?_, fun v hv => ?_, ?_⟩, ?_⟩
 ·show (zgb n).length = _
  rw [e, y0n, y11, hm]
 ·obtain rfl := y0e.1 hy
  refine ⟨by omega, ?_⟩
  show (0 : Int) ≤ (zgb n).getD 0 0
  rw [e]
  exact y2i _
 ·have hv : v ∈ zgb n := hv
  rw [e] at hv
  rcases y0m.1 hv with rfl | hv
  ·decide
  ·rw [List.eq_of_mem_replicate hv]; decide
 ·show v + ((zen (zgb n) : Nat) : Int) + 1 ≤ _
  rw [hn, hm]
  have hv : v ∈ zgb n := hv
  rw [e] at hv
  rcases y0m.1 hv with rfl | hv
  ·omega
  ·rw [List.eq_of_mem_replicate hv]; omega
 ·show 1 ≤ _
  omega
 ·rw [hn, hm]
  show 1 + m = _
  omega
set_option maxHeartbeats 8000000 in
theorem levels96 (l : List Ex) (hsl : ∀ y ∈ l, Slim y) {n : Nat} (h1 : 1 ≤ n) (h4 : n ≤ 4) (hg : zcc l n = 0) : PF Try.prog 96 [.agg [.vs (cXs l)], .int .i64 (n : Nat)] (vsI (zok l n)) := by
 have hb0 := zca n 0
 have hpos := pos95 (e := zbw n 0) (by rw [hb0]; exact h1) (by rw [hb0]; exact h4)
 rw [hb0, zfx h1 h4 (Nat.two_pow_pos n)] at hpos
 have hal := zge l hsl (zdn (zbw n 0)) (zow (by rw [hb0]; exact hg))
 have hN := Nat.two_pow_pos n
 refine zb1 env0_ok fn96 [(0, .agg [.vs (cXs l)]), (1, .int .i64 (n : Nat))] (by show 2 ≤ 62; decide) rfl fun w0 N0 => ?_
 unfold ic96 zok
 refine zsr rfl (zc1 rfl rfl (zc1 rfl rfl (za1 rfl (onr rfl ?_))))
 refine zm1 [[.int .i64 (-1)]] rfl rfl rfl rfl ?_
 refine za7 rfl rfl ?_
 refine zb6 (op := .shl) rfl rfl (shl4 h4) ?_
 refine o_own rfl rfl (rep81 h1 h4) (zh0 _) ?_
 refine zau (zad rfl rfl rfl rfl rfl rfl rfl (onu (za8 (za8 ?_))))
 refine zg4 env0_ok [(95, [.int .i64 (n : Nat), .int .i64 0], vsI (zdn (zbw n 0))), (94, [.agg [.vs (cXs l)], vsI (zdn (zbw n 0))], .bool (zdw l (zdn (zbw n 0))))] (fun x hx => by
  rcases y0m.1 hx with rfl | hx
  ·exact hpos
  obtain rfl := y0e.1 hx
  exact hal) (fun f => Nat.beq f 95 || Nat.beq f 94) rfl rfl rfl ?_
 refine zam rfl rfl rfl rfl (za7 rfl rfl ?_)
 refine zap rfl rfl zbq noC ?_
 refine zap rfl rfl (zda (by decide) zbq) noC ?_
 cases hf : zdw l (zdn (zbw n 0)) with
 | false =>
  refine zfr rfl rfl (onu (zb4 rfl (zsr rfl (za7 rfl rfl (za1 rfl (onu (zak (za4 ?_))))))))
  exact zaf ⟨.inr rfl, _, rfl, zr0 (d := 3) _ (y11 ..) rfl⟩
 | true =>
  rw [if_pos rfl]
  refine zfr rfl rfl (onu (zb8 rfl (zab (zaa (zsr rfl (za7 rfl rfl (zb3 rfl rfl (by omega) (by omega) ?_)))))))
  refine ze0 rfl rfl rfl rfl (by rw [y09, y11]; exact hN) rfl ?_
  refine onr rfl (zfd rfl rfl (zc1 rfl rfl (zau (zad rfl rfl rfl rfl rfl rfl rfl (onr rfl (za7 rfl rfl ?_))))))
  refine zsb _ rfl rfl (zva (put141n (a := 4) (sa := 4) 0 ⟨_, _, _⟩ rfl (show 4 < 6 by decide))) (fun _ _ _ _ hm => absurd hm y0d) fun v2 H4 hF4 => ?_
  subst hF4
  refine onu (za8 (zsr rfl (za7 rfl rfl ?_)))
  refine zsb _ rfl rfl (zva (all142 (a := 4) (sa := 4) ⟨_, _, _⟩)) (fun _ _ _ _ hm => absurd hm y0d) fun v2 H4 hF4 => ?_
  obtain ⟨rfl, rfl⟩ := hF4
  refine onu (zac ?_)
  have hset : ((List.replicate (2 ^ n) (-1 : Int)).map (AV.int .i64)).set 0 (.int .i64 0) = (zgb n).map (AV.int .i64) := by
   unfold zgb
   rw [List.map_set]
  obtain ⟨hB0, hB1⟩ := zp2 h1
  refine zeg [(some (3, 3), [.ms 1 0 1 0 (2 ^ n) (some (2 ^ n))]), (some (2, 2), (zgb n).map (AV.int .i64)), (some (5, 5), [.mptr 3 0 0]), (some (4, 4), [.ms 4 0 1 0 1 none]), (some (6, 6), [.int .i64 0]), (some (7, 7), [.mptr 3 0 0])] [(0, 0, [.vs (cXs l)]), (1, 1, [.int .i64 (n : Nat)])] (l96 l n) rfl (.cons rfl rfl (.cons rfl rfl .nil)) (.cons rfl (.cons (.ms rfl) .nil) (.cons (by rw [← hset]; rfl) (.keep (zj3 _)) (.cons rfl (.cons (.mptr rfl) .nil) (.cons rfl (.cons (.ms rfl) .nil) (.cons rfl (.keep rfl) (.cons rfl (.cons (.mptr rfl) .nil) .nil)))))) (.cons rfl (.fptr rfl rfl) (.cons rfl (.fptr rfl rfl) (.cons rfl (.mptr rfl) (.cons rfl (.mptr rfl) (.cons rfl (.fn rfl rfl (fun i x y h _ => by simp at h) (fun i x y g1 g2 => by
   match i, g1, g2 with
   | 0, g1, g2 => injection g1 with g1; injection g2 with g2; subst g1 g2; exact .mptr rfl
   | i + 1, g1, g2 => simp at g1)) .nil))))) ?_
  refine zgu (.inl rfl) rfl fun ha hb => (range161 h1 h4 (fun out k q H hB hk hk0 hm hQ => yield96 hsl h1 h4 hg ha hb out k q H hB hk hk0 hm hQ) ⟨_, _, _⟩ (zgb n) [0] (2 ^ n + 1) ⟨y0c _, rfl, rfl, rfl, rfl, rfl, rfl, 0, 0, [.int .i64 0], rfl, rfl, y0c _, rfl⟩ hB0 (by omega) (by omega)).mono fun v H2 hF => ?_
  obtain ⟨hK, q', nx, h7, h6, g0, g1, _⟩ := hF
  have hlen := bfs_BI l h1 h4 (2 ^ n + 1) (zgb n, [0]) hB0 (by show ([0] : List Nat).length + zen (zgb n) ≤ _; omega)
  refine ⟨_, _, .normal, _, _, _, _, _, _, h7, by simp, rfl, fun z hz => ?_, ?_⟩
  ·obtain rfl := y0e.1 hz
   show Am.look 6 (zbe 7 H2.heap) = some (1, .deferred)
   exact (by (repeat (first | rw [za0, if_pos rfl] | rw [za0, if_neg (by decide)] | rw [za3, if_neg (by decide)])); all_goals (first | rfl | assumption))
  ·refine zb7 (zaa (zsr rfl ?_))
   refine zbk (sp := 0) rfl (show Am.look 0 (zbe 7 H2.heap) = _ from (by (repeat (first | rw [za0, if_pos rfl] | rw [za0, if_neg (by decide)] | rw [za3, if_neg (by decide)])); all_goals (first | rfl | assumption))) (by omega) rfl ?_
   refine za1 rfl (onu (zak ?_))
   refine zaf ⟨.inr rfl, _, rfl, zr0 (d := 3) _ hlen ?_⟩
   show Am.look 1 (zbe 6 (zbe 7 H2.heap)) = _
   exact (by (repeat (first | rw [za0, if_pos rfl] | rw [za0, if_neg (by decide)] | rw [za3, if_neg (by decide)])); all_goals (first | rfl | assumption))
theorem znf : ∀ e ∈ allE, ∀ i ∈ [0, 1, 2, 3], i < e.length → sw (wayE (zcq e i) i) = sw (wayE e i) ∧ zcq (zcq e i) i = e := by decide +kernel
theorem i4 {i n : Nat} (hi : i < n) (h4 : n ≤ 4) : i ∈ [0, 1, 2, 3] := by
 rcases (show i = 0 ∨ i = 1 ∨ i = 2 ∨ i = 3 by omega) with rfl | rfl | rfl | rfl <;> simp
theorem zpy {e : List Bool} (h1 : 1 ≤ e.length) (h4 : e.length ≤ 4) {i : Nat} (hi : i < e.length) : zcq (zcq e i) i = e := (znf e (zdi e h1 h4) i (i4 hi h4) hi).2
theorem ztx (l : List Ex) {e : List Bool} (h1 : 1 ≤ e.length) (h4 : e.length ≤ 4) {i : Nat} (hi : i < e.length) : zqe l (zcq e i) i = zqe l e i := by
 obtain ⟨a, b⟩ := znf e (zdi e h1 h4) i (i4 hi h4) hi
 have hw : zdw l (wayE (zcq e i) i) = zdw l (wayE e i) := by
  unfold zdw ziu
  rw [a]
 unfold zqe
 rw [b, hw, Bool.and_comm (zdw l (zdn (zcq e i)))]
section
variable {l : List Ex} {n : Nat} (h1 : 1 ≤ n) (h4 : n ≤ 4)
include h1 h4
theorem nxt_nxt {k i : Nat} (hk : k < 2 ^ n) (hi : i < n) : nxt n (nxt n k i) i = k := by
 have hl := zca n k
 show zd9 (zcq (zbw n (nxt n k i)) i) = k
 rw [znn h1 h4, zpy (by rw [hl]; exact h1) (by rw [hl]; exact h4) (by rw [hl]; exact hi), zfx h1 h4 hk]
theorem mv_back {k i : Nat} (hi : i ∈ mv l n k) : i ∈ mv l n (nxt n k i) := by
 have hl := zca n k
 obtain ⟨a, b⟩ := y1s.1 hi
 refine y1s.2 ⟨a, ?_⟩
 have hin := y10.1 a
 rw [znn h1 h4]
 have := ztx l (e := zbw n k) (by rw [hl]; exact h1) (by rw [hl]; exact h4) (i := i) (by rw [hl]; exact hin)
 exact this.trans b
end
structure LevW (l : List Ex) (n : Nat) (D : List Int) : Prop where
 len : D.length = 2 ^ n
 lo : ∀ k, k < 2 ^ n → -1 ≤ D.getD k 0
 hi : ∀ k, k < 2 ^ n → D.getD k 0 < ((2 ^ n : Nat) : Int)
 zer : ∀ k, k < 2 ^ n → D.getD k 0 = 0 → k = 0
 pred : ∀ z, z < 2 ^ n → 0 < D.getD z 0 → ∃ y, y < 2 ^ n ∧ ∃ i ∈ mv l n y, nxt n y i = z ∧ D.getD y 0 + 1 = D.getD z 0
 step : ∀ y, y < 2 ^ n → 0 ≤ D.getD y 0 → ∀ i ∈ mv l n y, 0 ≤ D.getD (nxt n y i) 0 ∧ D.getD (nxt n y i) 0 ≤ D.getD y 0 + 1
structure BQ (l : List Ex) (n : Nat) (s : List Int × List Nat) : Prop where
 bi : BI n s
 zero : s.1.getD 0 0 = 0
 zer : ∀ k, k < 2 ^ n → s.1.getD k 0 = 0 → k = 0
 pred : ∀ z, z < 2 ^ n → 0 < s.1.getD z 0 → ∃ y, y < 2 ^ n ∧ ∃ i ∈ mv l n y, nxt n y i = z ∧ s.1.getD y 0 + 1 = s.1.getD z 0
 fin : ∀ p, p < 2 ^ n → 0 ≤ s.1.getD p 0 → p ∉ s.2 → ∀ i ∈ mv l n p, 0 ≤ s.1.getD (nxt n p i) 0 ∧ s.1.getD (nxt n p i) 0 ≤ s.1.getD p 0 + 1
 top : ∀ v, v < 2 ^ n → ∀ x ∈ s.2, s.1.getD v 0 ≤ s.1.getD x 0 + 1
 srt : s.2.Pairwise fun x y => s.1.getD x 0 ≤ s.1.getD y 0
structure BJ (l : List Ex) (n k : Nat) (done : List Nat) (s : List Int × List Nat) : Prop where
 bi : BI n s
 zero : s.1.getD 0 0 = 0
 zer : ∀ k, k < 2 ^ n → s.1.getD k 0 = 0 → k = 0
 pred : ∀ z, z < 2 ^ n → 0 < s.1.getD z 0 → ∃ y, y < 2 ^ n ∧ ∃ i ∈ mv l n y, nxt n y i = z ∧ s.1.getD y 0 + 1 = s.1.getD z 0
 fin : ∀ p, p < 2 ^ n → 0 ≤ s.1.getD p 0 → p ∉ s.2 → p ≠ k → ∀ i ∈ mv l n p, 0 ≤ s.1.getD (nxt n p i) 0 ∧ s.1.getD (nxt n p i) 0 ≤ s.1.getD p 0 + 1
 cur : ∀ i ∈ done, 0 ≤ s.1.getD (nxt n k i) 0 ∧ s.1.getD (nxt n k i) 0 ≤ s.1.getD k 0 + 1
 k0 : 0 ≤ s.1.getD k 0
 top : ∀ v, v < 2 ^ n → s.1.getD v 0 ≤ s.1.getD k 0 + 1
 low : ∀ x ∈ s.2, s.1.getD k 0 ≤ s.1.getD x 0
 srt : s.2.Pairwise fun x y => s.1.getD x 0 ≤ s.1.getD y 0
section
variable {l : List Ex} {n : Nat} (h1 : 1 ≤ n) (h4 : n ≤ 4)
include h1 h4
theorem push_BJ {k i : Nat} {done : List Nat} {s : List Int × List Nat} (hk : k < 2 ^ n) (hi : i ∈ mv l n k) (h : BJ l n k done s) (hm : s.2.length + zen s.1 ≤ 2 ^ n) : BJ l n k (i :: done) (push n k s i) := by
 have hbi := (zoy (i := i) h1 h4 hk h.bi h.k0 hm).1
 have hy := zmz (k := k) (i := i) h1 h4
 obtain ⟨out, q⟩ := s
 have hlen : out.length = 2 ^ n := h.bi.len
 have hbq := h.bi.q
 have hN := Nat.two_pow_pos n
 obtain ⟨_, zero, zer, pred, fin, cur, k0, top, low, srt⟩ := h
 simp only at zero zer pred fin cur k0 top low srt
 have hqn : ∀ x ∈ q, 0 ≤ out.getD x 0 := fun x hx => (hbq x hx).2
 unfold push at hbi ⊢
 simp only at hbi ⊢
 by_cases hneg : out.getD (nxt n k i) 0 < 0
 ·rw [if_pos hneg] at hbi ⊢
  have G : ∀ z, (out.set (nxt n k i) (out.getD k 0 + 1)).getD z 0 = if nxt n k i = z then out.getD k 0 + 1 else out.getD z 0 := fun z => ze6 (by omega)
  have ne : ∀ {z}, 0 ≤ out.getD z 0 → nxt n k i ≠ z := fun hz e => by rw [e] at hneg; omega
  have Gs : ∀ {z}, 0 ≤ out.getD z 0 → (out.set (nxt n k i) (out.getD k 0 + 1)).getD z 0 = out.getD z 0 := fun hz => by rw [G, if_neg (ne hz)]
  have Gy : (out.set (nxt n k i) (out.getD k 0 + 1)).getD (nxt n k i) 0 = out.getD k 0 + 1 := by rw [G, if_pos rfl]
  refine ⟨hbi, ?_, fun z hz e => ?_, fun z hz hp => ?_, fun p hp hp0 hpq hpk j hj => ?_, fun j hj => ?_, ?_, fun v hv => ?_, fun x hx => ?_, ?_⟩
  ·show (out.set _ _).getD 0 0 = 0
   rw [Gs (by omega)]; exact zero
  ·have e : (out.set _ _).getD z 0 = 0 := e
   rw [G] at e
   split at e
   ·omega
   ·exact zer z hz e
  ·have hp : 0 < (out.set _ _).getD z 0 := hp
   show ∃ y, y < 2 ^ n ∧ ∃ i' ∈ mv l n y, nxt n y i' = z ∧ (out.set _ _).getD y 0 + 1 = (out.set _ _).getD z 0
   by_cases e : nxt n k i = z
   ·subst e
    exact ⟨k, hk, i, hi, rfl, by rw [Gs k0, Gy]⟩
   ·rw [G, if_neg e] at hp
    obtain ⟨y, hy2, j, hj, e1, e2⟩ := pred z hz hp
    refine ⟨y, hy2, j, hj, e1, ?_⟩
    rw [Gs (z := y) (by omega), G, if_neg e]
    exact e2
  ·have hp0 : 0 ≤ (out.set _ _).getD p 0 := hp0
   have hpq : p ∉ q ++ [nxt n k i] := hpq
   have hpy : nxt n k i ≠ p := fun e => hpq (by rw [e]; simp)
   rw [G, if_neg hpy] at hp0
   obtain ⟨a, b⟩ := fin p hp hp0 (fun hh => hpq (List.mem_append_left _ hh)) hpk j hj
   show 0 ≤ (out.set _ _).getD _ 0 ∧ (out.set _ _).getD _ 0 ≤ (out.set _ _).getD p 0 + 1
   rw [Gs a, Gs hp0]
   exact ⟨a, b⟩
  ·show 0 ≤ (out.set _ _).getD _ 0 ∧ (out.set _ _).getD _ 0 ≤ (out.set _ _).getD k 0 + 1
   rcases y0m.1 hj with rfl | hj
   ·rw [Gy, Gs k0]; omega
   ·obtain ⟨a, b⟩ := cur j hj
    rw [Gs a, Gs k0]
    exact ⟨a, b⟩
  ·show 0 ≤ (out.set _ _).getD k 0
   rw [Gs k0]; exact k0
  ·show (out.set _ _).getD v 0 ≤ (out.set _ _).getD k 0 + 1
   rw [Gs k0, G]
   split
   ·exact y2i _
   ·exact top v hv
  ·show (out.set _ _).getD k 0 ≤ (out.set _ _).getD x 0
   have hx : x ∈ q ++ [nxt n k i] := hx
   rcases List.mem_append.1 hx with hx | hx
   ·rw [Gs k0, Gs (hqn x hx)]; exact low x hx
   ·obtain rfl := y0e.1 hx
    rw [Gs k0, Gy]; omega
  ·show (q ++ [nxt n k i]).Pairwise fun x y => (out.set (nxt n k i) (out.getD k 0 + 1)).getD x 0 ≤ (out.set (nxt n k i) (out.getD k 0 + 1)).getD y 0
   rw [List.pairwise_append]
   refine ⟨srt.imp_of_mem fun ha hb hab => by rw [Gs (hqn _ ha), Gs (hqn _ hb)]; exact hab, List.pairwise_singleton .., fun a ha b hb => ?_⟩
   obtain rfl := y0e.1 hb
   rw [Gs (hqn a ha), Gy]
   exact top a (hbq a ha).1
 ·rw [if_neg hneg] at hbi ⊢
  refine ⟨hbi, zero, zer, pred, fin, fun j hj => ?_, k0, top, low, srt⟩
  rcases y0m.1 hj with rfl | hj
  ·exact ⟨by show 0 ≤ out.getD _ 0; omega, top _ hy⟩
  ·exact cur j hj
theorem zuu {k : Nat} (hk : k < 2 ^ n) : ∀ (ms : List Nat) (done : List Nat) (s : List Int × List Nat), (∀ i ∈ ms, i ∈ mv l n k) → BJ l n k done s → s.2.length + zen s.1 ≤ 2 ^ n → BJ l n k (ms.reverse ++ done) (ms.foldl (push n k) s)
 | [], done, s, _, h, _ => h
 | i :: ms, done, s, hi, h, hm => by
  have hp := push_BJ h1 h4 hk (hi i (y05 ..)) h hm
  have hb := zoy (i := i) h1 h4 hk h.bi h.k0 hm
  have := zuu hk ms (i :: done) _ (fun j hj => hi j (y04 _ hj)) hp (by rw [hb.2.2]; exact hm)
  rw [List.reverse_cons, y1j]
  exact this
theorem zx1 : ∀ (f : Nat) (s : List Int × List Nat), BQ l n s → s.2.length + zen s.1 ≤ 2 ^ n → s.2.length + zen s.1 < f → LevW l n (bfs l n f s) ∧ (bfs l n f s).getD 0 0 = 0
 | 0, s, _, _, hf => absurd hf (y2j _)
 | f + 1, (out, []), h, _, _ => by
  refine ⟨⟨h.bi.len, fun k hk => ?_, fun k hk => ?_, h.zer, h.pred, fun y hy hy0 i hi => h.fin y hy hy0 y0d i hi⟩, h.zero⟩
  ·exact h.bi.lo _ (zk0 (by have : out.length = 2 ^ n := h.bi.len; show k < out.length; omega))
  ·have := h.bi.hi _ (zk0 (y := k) (by have : out.length = 2 ^ n := h.bi.len; show k < out.length; omega))
   show out.getD k 0 < _
   have : out.getD k 0 + zen out + 1 ≤ ((2 ^ n : Nat) : Int) := this
   omega
 | f + 1, (out, k :: q), h, hm, hf => by
  obtain ⟨hBp, hk, hk0⟩ := zw7 h.bi
  simp only [y0n] at hm hf
  have hsrt := List.pairwise_cons.1 h.srt
  have hJ : BJ l n k [] (out, q) := ⟨hBp, h.zero, h.zer, h.pred, fun p hp hp0 hpq hpk j hj => h.fin p hp hp0 (fun hh => (y0m.1 hh).elim hpk hpq) j hj, fun i hi => absurd hi y0d, hk0, fun v hv => h.top v hv k (y05 ..), hsrt.1, hsrt.2⟩
  have hm' : q.length + zen out ≤ 2 ^ n := by omega
  have hv := zuu h1 h4 hk (mv l n k) [] (out, q) (fun i hi => hi) hJ hm'
  rw [y0p] at hv
  obtain ⟨b1, b2⟩ := zkh (l := l) h1 h4 hk (mv l n k) (out, q) hBp hk0 hm'
  have b2 : (zff l n k (out, q)).2.length + zen (zff l n k (out, q)).1 = q.length + zen out := b2
  have hQ : BQ l n (zff l n k (out, q)) := ⟨b1, hv.zero, hv.zer, hv.pred, fun p hp hp0 hpq j hj => by
   by_cases e : p = k
   ·subst e
    exact hv.cur j (List.mem_reverse.2 hj)
   ·exact hv.fin p hp hp0 hpq e j hj, fun v hv' x hx => by
    have a := hv.top v hv'
    have b := hv.low x hx
    have a : (zff l n k (out, q)).1.getD v 0 ≤ (zff l n k (out, q)).1.getD k 0 + 1 := a
    have b : (zff l n k (out, q)).1.getD k 0 ≤ (zff l n k (out, q)).1.getD x 0 := b
    omega, hv.srt⟩
  exact zx1 f _ hQ (by omega) (by omega)
theorem start_BQ : BQ l n (zgb n, [0]) := by
 have _ := h4
 obtain ⟨hb, _⟩ := zp2 h1
 have hN := Nat.two_pow_pos n
 have hg : ∀ z, z < 2 ^ n → (zgb n).getD z 0 = if z = 0 then 0 else -1 := fun z hz => by
  unfold zgb
  rw [ze6 (by rw [y11]; exact hN)]
  by_cases e : z = 0
  ·rw [if_pos e.symm, if_pos e]
  ·rw [if_neg (fun h => e h.symm), if_neg e, y06, List.getElem?_replicate, if_pos hz]
   rfl
 have h0 : (zgb n).getD 0 0 = 0 := by rw [hg 0 hN, if_pos rfl]
 refine ⟨hb, h0, fun k hk e => ?_, fun z hz hp => ?_, fun p hp hp0 hpq => ?_, fun v hv x hx => ?_, List.pairwise_singleton ..⟩
 ·have e : (zgb n).getD k 0 = 0 := e
  rw [hg k hk] at e
  split at e
  ·assumption
  ·cases e
 ·have hp : 0 < (zgb n).getD z 0 := hp
  rw [hg z hz] at hp
  split at hp <;> omega
 ·have hp0 : 0 ≤ (zgb n).getD p 0 := hp0
  rw [hg p hp] at hp0
  split at hp0
  ·rename_i e
   subst e
   exact absurd (y0e.2 rfl) hpq
  ·omega
 ·obtain rfl := y0e.1 hx
  show (zgb n).getD v 0 ≤ (zgb n).getD 0 0 + 1
  rw [hg v hv, h0]
  split <;> omega
theorem lev_free (hf : zdw l (zdn (zbw n 0)) = true) : LevW l n (zok l n) ∧ (zok l n).getD 0 0 = 0 := by
 obtain ⟨_, hm⟩ := zp2 h1
 unfold zok
 rw [if_pos hf]
 have hm : ([0] : List Nat).length + zen (zgb n) = 2 ^ n := hm
 exact zx1 h1 h4 _ _ (start_BQ h1 h4) (Nat.le_of_eq hm) (by show ([0] : List Nat).length + zen (zgb n) < _; omega)
theorem rep_get (z : Nat) (hz : z < 2 ^ n) : (List.replicate (2 ^ n) (-1 : Int)).getD z 0 = -1 := by
 have _ := h1
 have _ := h4
 rw [y06, List.getElem?_replicate, if_pos hz]
 rfl
theorem zs6 : LevW l n (zok l n) := by
 cases hf : zdw l (zdn (zbw n 0)) with
 | true => exact (lev_free h1 h4 hf).1
 | false =>
  have e : zok l n = List.replicate (2 ^ n) (-1) := by unfold zok; rw [hf]; rfl
  rw [e]
  have g := rep_get h1 h4
  exact ⟨y11 .., fun k hk => by rw [g k hk]; decide, fun k hk => by rw [g k hk]; omega, fun k hk h => by rw [g k hk] at h; omega, fun z hz h => by rw [g z hz] at h; omega, fun y hy h => by rw [g y hy] at h; omega⟩
end
section
variable {f : List Ex} {n : Nat} {E : List Bool} {p : Sp}
def SafeS (f : List Ex) (E : List Bool) (p : Sp) : Prop := ∀ q ∈ zeh (zfp E (aft E p.l) p.l E.length), (ziu f q).isEmpty = true
end
section
variable {f : List Ex} {n : Nat} {l : List Sp} (ok : SeqOk n l) (h4 : n ≤ 4) (hs : (dgS f 0 (List.replicate n false) l).2.2 = false)
include ok h4 hs
omit ok h4 in
end
open Go Go.Am Go.ChangeShapes Go.WideShapes Go.ChangeAt Go.RowKit
theorem own : ownKnob Try.prog.godebug = none := by kernel_rfl
theorem gok {W : World} : GOk (fun _ => True) W := fun _ hx => absurd hx y0d
theorem solid : zwe Try.prog Try.prog.types.size := solid_of (by kernel_rfl)
def tv (D : List Int) (r : Int) (z : Nat) : Int := if D.getD z 0 ≤ r then D.getD z 0 else -1
structure Mix (n : Nat) (D : List Int) (far k : Nat) (out : List Int) : Prop where
 len : out.length = 2 ^ n
 get : ∀ z, z < 2 ^ n → out.getD z 0 = if z < k then tv D (far + 1 : Nat) z else tv D far z
section
variable {l : List Ex} {n : Nat} (h1 : 1 ≤ n) (h4 : n ≤ 4) {D : List Int} (hD : LevW l n D) {far k : Nat} {out : List Int}
include h1 h4 hD
end
section
variable {l : List Ex} {n : Nat} (h1 : 1 ≤ n) (h4 : n ≤ 4)
include h1 h4
end
def skE (n k i : Nat) : Sk := ⟨(i : Nat), !((zbw n k).getD i false)⟩
def down (n : Nat) (D : List Int) (k i : Nat) : Bool := D.getD (nxt n k i) 0 == D.getD k 0 - 1
theorem zki {D : List Int} {k : Nat} (hk : k < D.length) : (D.map fun z => ([.int .i64 z] : List AV))[((k : Nat) : Int).toNat]? = some [.int .i64 (D.getD k 0)] := by
 rw [y0w, y0i, y06, y07 hk]
 rfl
-- pneumatic/homing.first$1
def ic143 : IC := .seq (.region [oM 3 (.box (.t 0)),
  oM 4 (.mov (.c (.bool false)))] none)
 (.seq (.region [oN 5 1,
  oN 6 2,
  oF 7 0 3,
  oN 8 7,
  oM 9 (.bin .shl (.c (.int .i64 1)) (.t 8)),
  oM 10 (.bin .xor (.t 6) (.t 9)),
  oM 11 (.idxs 1 (.t 5) (.t 10)),
  oN 12 11,
  oN 13 1,
  oN 14 2,
  oM 15 (.idxs 1 (.t 13) (.t 14)),
  oN 16 15,
  oM 17 (.bin .sub (.t 16) (.c (.int .i64 1))),
  oM 18 (.bin .eql (.t 12) (.t 17)),
  oT 4 18] (some [[], [], [], [2], [3], [1, 4], [0, 5], [6], [], [], [8, 9], [10], [11], [7, 12], [13, 0, 1, 2, 3, 4, 5, 6, 7, 8, 9, 10, 11, 12, 13]]))
 (.ret))
theorem fn143 : env0.fn 143 = some ⟨19, ic143, [.t 4]⟩ := by kernel_rfl
theorem down143 {n k i : Nat} (h1 : 1 ≤ n) (h4 : n ≤ 4) (hk : k < 2 ^ n) (hi : i < n) (D : List Int) (hD : D.length = 2 ^ n) (hb : ∀ z, z < 2 ^ n → -1 ≤ D.getD z 0 ∧ D.getD z 0 ≤ 100) :
  PF Try.prog 143 [.agg (cS (skE n k i)), .vptr [vsI D], .vptr [.int .i64 (k : Nat)]] (.bool (down n D k i)) := by
 have hbl := zca n k
 have hx := xorE (e := zbw n k) (by rw [hbl]; exact h1) (by rw [hbl]; exact h4) (by rw [hbl]; exact hi)
 rw [zfx h1 h4 hk, show zd9 (zcq (zbw n k) i) = nxt n k i from rfl] at hx
 have hy := zmz (k := k) (i := i) h1 h4
 have g1 := zki (D := D) (k := k) (by omega)
 have g2 := zki (D := D) (k := nxt n k i) (by omega)
 have b1 := hb k hk
 refine zb1 env0_ok fn143 [(0, .agg (cS (skE n k i))), (1, .vptr [vsI D]), (2, .vptr [.int .i64 (k : Nat)])] (by show 3 ≤ 19; decide) rfl fun w0 N0 => ?_
 unfold ic143 cS skE
 refine zsr rfl (zc1 rfl rfl (za1 rfl (onu (za8 (ziy env0_ok rfl rfl rfl (za7 rfl rfl (za7 rfl rfl (za9 rfl (za7 rfl rfl ?_)))))))))
 refine zb6 (op := .shl) rfl rfl (shl1 (show i < 4 by omega)) ?_
 refine zb6 (op := .xor) rfl rfl hx ?_
 repeat (first | refine za7 rfl rfl ?_ | refine zb6 (op := .sub) rfl rfl rfl ?_ | refine zbh rfl rfl (by omega) (by assumption) rfl ?_)
 rw [zjn _ (by omega) (by omega)]
 refine zb6 (op := .eql) rfl rfl rfl ?_
 refine za1 rfl (onu (zak ?_))
 exact zaf ⟨.inr rfl, _, rfl, rfl⟩
def fIx (p : Nat → Bool) : List Nat → Nat → Int
 | [], _ => -1
 | i :: r, j => if p i then (j : Nat) else fIx p r (j + 1)
theorem ztm (p : Nat → Bool) : ∀ (ms : List Nat) (b : Nat), (ms.find? p = none ∧ fIx p ms b = -1) ∨ ∃ i j, ms.find? p = some i ∧ fIx p ms b = ((b + j : Nat) : Int) ∧ ms[j]? = some i
 | [], b => .inl ⟨rfl, rfl⟩
 | i :: r, b => by
  rw [List.find?_cons, fIx]
  cases hp : p i with
  | true => exact .inr ⟨i, 0, rfl, rfl, rfl⟩
  | false =>
   rcases ztm p r (b + 1) with ⟨a, c⟩ | ⟨i2, j, a, c, d⟩
   ·exact .inl ⟨a, c⟩
   ·exact .inr ⟨i2, j + 1, a, by rw [if_neg (by decide), c]; omega, d⟩
def zwx : IC := .seq (.region [oM 9 (.bin .lss (.t 8) (.t 7))] none)
 (.seq (.cond (.t 9) (.skip)
 (.exit 0))
 (.seq (.block 1 (.seq (.region [oT 10 8,
  oT 5 10] none)
 (.seq (.region [oT 11 1,
  oT 12 0,
  oT 13 5,
  oM 14 (.idxs 2 (.t 12) (.t 13)),
  oL 15 2 14,
  oM 16 (.call (.t 11) [(.t 15)])] none)
 (.cond (.t 16) (.seq (.region [oT 17 5,
  oT 4 17] none)
 (.ret))
 (.skip)))))
 (.region [oM 18 (.bin .add (.t 8) (.c (.int .i64 1))),
  oT 8 18] none)))
-- slices.IndexFunc[[]pneumatic/api.Stroke,pneumatic/api.Stroke]
def ic119 : IC := .seq (.region [oM 4 (.mov (.c (.int .i64 0)))] none)
 (.seq (.seq (.region [oT 6 0,
  oM 7 (.len false (.t 6)),
  oM 8 (.mov (.c (.int .i64 0)))] none)
 (.block 0 (.loop zwx)))
 (.seq (.region [oM 4 (.mov (.c (.int .i64 (-1))))] none)
 (.ret)))
theorem fn119 : env0.fn 119 = some ⟨19, ic119, [.t 4]⟩ := by kernel_rfl
set_option maxHeartbeats 2000000 in
theorem index119 {n k : Nat} (h1 : 1 ≤ n) (h4 : n ≤ 4) (hk : k < 2 ^ n) (ms : List Nat) (hms : ∀ i ∈ ms, i < n) (hml : ms.length ≤ n) (D : List Int) (hD : D.length = 2 ^ n) (hb : ∀ z, z < 2 ^ n → -1 ≤ D.getD z 0 ∧ D.getD z 0 ≤ 100) :
  PF Try.prog 119 [.vs (cSs (ms.map (skE n k))), .fn 143 [] [.vptr [vsI D], .vptr [.int .i64 (k : Nat)]]] (.int .i64 (fIx (down n D k) ms 0)) := by
 have hcl : (cSs (ms.map (skE n k))).length = ms.length := by rw [zc3, y09]
 refine zb1 env0_ok fn119 [(0, .vs (cSs (ms.map (skE n k)))), (1, .fn 143 [] [.vptr [vsI D], .vptr [.int .i64 (k : Nat)]])] (by show 2 ≤ 19; decide) rfl fun w0 N0 => ?_
 unfold ic119
 refine zsr rfl (za1 rfl (onu (za8 (zsr rfl (za1 rfl (zbd rfl rfl (za1 rfl (onu (zac ?_)))))))))
 rw [hcl]
 refine zbu (fun mm S => ∃ j, mm = ms.length - j ∧ j ≤ ms.length ∧ fIx (down n D k) ms 0 = fIx (down n D k) (ms.drop j) j ∧ S = st 19 [(0, .vs (cSs (ms.map (skE n k)))), (1, .fn 143 [] [.vptr [vsI D], .vptr [.int .i64 (k : Nat)]]), (7, .int .i64 (ms.length : Nat)), (8, .int .i64 (j : Nat))] [] 0 1) ms.length
  (ze3 (.cons rfl (.same rfl) (.cons rfl (.same rfl) (.cons rfl (.same rfl) (.cons rfl (.same rfl) .nil))))) ⟨0, rfl, y0t _, rfl, rfl⟩ ?_
 rintro mm S ⟨j, rfl, hj, hfx, rfl⟩
 unfold zwx
 refine zsr rfl ?_
 refine zaq rfl rfl rfl (fun h3 => ?_) fun h3 => ?_
 ·have hlt : j < ms.length := by have := of_decide_eq_true h3; omega
  have hmem := y0y hlt
  rw [y0g hlt, fIx] at hfx
  have hge := zdo (l := ms.map (skE n k)) (i := j) (by rw [y09]; exact hlt)
  rw [List.getElem_map] at hge
  generalize ms[j] = i at hmem hfx hge
  have h143 := down143 h1 h4 hk (hms i hmem) D hD hb
  have hge : (cSs (ms.map (skE n k)))[((j : Nat) : Int).toNat]? = some (cS (skE n k i)) := hge
  repeat (first | refine za8 ?_ | refine za5 rfl ?_ | refine zai ?_ | refine zaa ?_ | refine zac ?_ | refine zab ?_ | refine zb4 rfl ?_ | refine za1 rfl ?_ | refine zam rfl rfl rfl rfl ?_ | refine zbh rfl rfl (by omega) (by assumption) rfl ?_)
  refine zjc rfl rfl rfl h143 noC ?_
  cases hp : down n D k i with
  | true =>
   rw [hp, if_pos rfl] at hfx
   rw [hfx]
   refine onu (zb4 rfl (zsr rfl (za1 rfl (za1 rfl (onu (zak (zag (za4 ?_))))))))
   refine zbb ?_
   refine zag (za4 ?_)
   exact zaf ⟨.inr rfl, _, rfl, rfl⟩
  | false =>
   rw [hp, if_neg (by decide)] at hfx
   refine onu (zb8 rfl (zab (zb7 (zaa (za5 rfl (zb6 (op := .add) rfl rfl rfl (za1 rfl (zai ?_))))))))
   rw [zas j (by omega)]
   exact zav (show ms.length - (j + 1) < ms.length - j by omega) (ze3 (.cons rfl (.same rfl) (.cons rfl (.same rfl) (.cons rfl (.same rfl) (.cons rfl (.same rfl) .nil))))) ⟨j + 1, rfl, hlt, hfx, rfl⟩
 ·have hj2 : j = ms.length := by have := of_decide_eq_false h3; omega
  subst hj2
  rw [y0s, fIx] at hfx
  rw [hfx]
  refine onu (za8 (zb8 rfl (zbm (zao ?_))))
  refine zcn ?_
  refine zbl (zaa (zsr rfl (za1 rfl (onu (zak ?_)))))
  exact zaf ⟨.inr rfl, _, rfl, rfl⟩
def zy5 (l : List Ex) (n : Nat) (D : List Int) (k : Nat) : AV := match (mv l n k).find? (down n D k) with
 | some i => .tup [.agg (cS (skE n k i)), .bool true]
 | none => .tup [.agg [.int .i64 0, .bool false], .bool false]
-- pneumatic/homing.first
def ic97 : IC := .seq (.region [oM 4 (.box (.t 0)),
  oM 6 (.box (.t 2)),
  oM 7 (.box (.t 3)),
  oM 8 (.alloc [.int .i64 0, .bool false]),
  oM 9 (.mov (.c (.bool false)))] none)
 (.seq (.region [oL 12 1 4,
  oT 13 1,
  oN 14 6,
  oM 15 (.call (.c (.fn 101 [] [])) [(.t 12), (.t 13), (.t 14)]),
  oT 10 15] none)
 (.seq (.region [oT 16 10,
  oM 17 (.mkfn 143 [] [(.t 7), (.t 6)]),
  oM 18 (.call (.c (.fn 119 [] [])) [(.t 16), (.t 17)]),
  oT 11 18] none)
 (.seq (.seq (.region [oT 19 11,
  oM 20 (.bin .lss (.t 19) (.c (.int .i64 0)))] none)
 (.cond (.t 20) (.seq (.region [oM 21 (.build [.int .i64 0, .bool false] []),
  ⟨none, .store 2 (.t 8) (.t 21), none⟩,
  oM 9 (.mov (.c (.bool false)))] none)
 (.ret))
 (.skip)))
 (.seq (.region [oT 22 10,
  oT 23 11,
  oM 24 (.idxs 2 (.t 22) (.t 23)),
  oL 25 2 24,
  ⟨none, .store 2 (.t 8) (.t 25), none⟩,
  oM 9 (.mov (.c (.bool true)))] none)
 (.ret)))))
theorem fn97 : env0.fn 97 = some ⟨26, ic97, [.cell 8 (some 2), .t 9]⟩ := by kernel_rfl
theorem first97 (l : List Ex) (hsl : ∀ y ∈ l, Slim y) {n k : Nat} (h1 : 1 ≤ n) (h4 : n ≤ 4) (hg : zcc l n = 0) (hk : k < 2 ^ n) (D : List Int) (hD : D.length = 2 ^ n) (hb : ∀ z, z < 2 ^ n → -1 ≤ D.getD z 0 ∧ D.getD z 0 ≤ 100) :
  PF Try.prog 97 [.agg [.vs (cXs l)], .int .i64 (n : Nat), .int .i64 (k : Nat), vsI D] (zy5 l n D k) := by
 have hbl := zca n k
 have hmv := zu1 l hsl (zbw n k) (by rw [hbl]; exact h1) (by rw [hbl]; exact h4) (by rw [hbl]; exact hg)
 rw [hbl, zfx h1 h4 hk, zu3] at hmv
 have hmv : PF Try.prog 101 [.agg [.vs (cXs l)], .int .i64 (n : Nat), .int .i64 (k : Nat)] (.vs (cSs ((mv l n k).map (skE n k)))) := hmv
 have hmn : (mv l n k).length ≤ n := by
  have := List.length_filter_le (fun i => zqe l (zbw n k) i) (List.range n)
  rwa [y20] at this
 have hix := index119 h1 h4 hk (mv l n k) (fun i hi => zz9 hi) hmn D hD hb
 refine zb1 env0_ok fn97 [(0, .agg [.vs (cXs l)]), (1, .int .i64 (n : Nat)), (2, .int .i64 (k : Nat)), (3, vsI D)] (by show 4 ≤ 26; decide) rfl fun w0 N0 => ?_
 unfold ic97 zy5
 refine zsr rfl (zc1 rfl rfl (zc1 rfl rfl (zc1 rfl rfl (zau (za1 rfl (onr rfl (zam rfl rfl rfl rfl (za1 rfl (za7 rfl rfl ?_)))))))))
 refine zap rfl rfl hmv noC ?_
 refine za1 rfl (onr rfl (za1 rfl (zfk rfl rfl ?_)))
 refine zap rfl rfl hix (fun _ => rfl) ?_
 refine za1 rfl (onu (za8 (zsr rfl (za1 rfl ?_))))
 rcases ztm (down n D k) (mv l n k) 0 with ⟨a, c⟩ | ⟨i, j, a, c, d⟩
 ·rw [a, c]
  refine zby rfl rfl rfl ?_
  refine onu (zb4 rfl (zsr rfl (zfd rfl rfl (zad rfl rfl rfl rfl rfl rfl rfl (za1 rfl (onu (zak (za4 ?_))))))))
  exact zaf ⟨.inr rfl, _, rfl, rfl⟩
 ·rw [a, c, y1r]
  have hge : (cSs ((mv l n k).map (skE n k)))[((j : Nat) : Int).toNat]? = some (cS (skE n k i)) := by
   rw [y0w, cSs, y1y, y0i, d]
   rfl
  refine zaq rfl rfl rfl (fun h => absurd (of_decide_eq_true h) (by omega)) fun h => ?_
  unfold cS at hge ⊢
  refine onu (zb8 rfl (zab (zaa (zsr rfl (za1 rfl (za1 rfl (zbh rfl rfl (by omega) (by assumption) rfl (zam rfl rfl rfl rfl (zad rfl rfl rfl rfl rfl rfl rfl (za1 rfl (zai ?_)))))))))))
  refine zaa (zak ?_)
  exact zaf ⟨.inr rfl, _, rfl, rfl⟩
def zjx (l : List Ex) (n : Nat) (D : List Int) : Nat → Nat → List Sk
 | 0, _ => []
 | d + 1, k => match (mv l n k).find? (down n D k) with
  | some i => skE n k i :: zjx l n D d (nxt n k i)
  | none => []
theorem zq5 (l : List Ex) (n : Nat) (D : List Int) : ∀ (d k : Nat), (zjx l n D d k).length ≤ d
 | 0, _ => y0c _
 | d + 1, k => by
  rw [zjx]
  split
  ·rename_i i _
   have := zq5 l n D d (nxt n k i)
   rw [y0n]
   omega
  ·exact y0t _
theorem zz2 {l : List Ex} {n : Nat} {D : List Int} (h4 : n ≤ 4) (hD : LevW l n D) : ∀ z, z < 2 ^ n → -1 ≤ D.getD z 0 ∧ D.getD z 0 ≤ 100 := fun z hz => by
 have := pow4 h4
 have := hD.hi z hz
 exact ⟨hD.lo z hz, by omega⟩
theorem zpr {l : List Ex} {n : Nat} {D : List Int} (h1 : 1 ≤ n) (h4 : n ≤ 4) (hD : LevW l n D) {k : Nat} (hk : k < 2 ^ n) (h0 : 0 < D.getD k 0) : ∃ i, (mv l n k).find? (down n D k) = some i ∧ i ∈ mv l n k ∧ D.getD (nxt n k i) 0 = D.getD k 0 - 1 := by
 obtain ⟨y, hy, i, hi, e1, e2⟩ := hD.pred k hk h0
 have hb := mv_back h1 h4 hi
 have hn := nxt_nxt h1 h4 hy (zz9 hi)
 rw [e1] at hb hn
 cases hf : (mv l n k).find? (down n D k) with
 | none =>
  have := List.find?_eq_none.1 hf i hb
  exact absurd (show down n D k i = true by unfold down; rw [hn]; exact beq_iff_eq.2 (by omega)) this
 | some j =>
  have hj := List.find?_some hf
  unfold down at hj
  exact ⟨j, rfl, List.mem_of_find?_eq_some hf, by simpa using hj⟩
def zpw (l : List Ex) (e : List Bool) : AV :=
 if zcc l e.length = 0 then
  (if zdw l (zdn e) then
   (if (zok l e.length).getD (zd9 e) 0 < 0 then .tup [.vs [], .int .i64 6] else .tup [.vs (cSs (zjx l e.length (zok l e.length) ((zok l e.length).getD (zd9 e) 0).toNat (zd9 e))), .int .i64 0])
  else .tup [.vs [], .int .i64 22])
 else .tup [.vs [], .int .i64 (zcc l e.length)]
def b37_0 : IC := .seq (.seq (.region [oT 37 9,
  oT 38 8,
  oM 39 (.idxs 1 (.t 37) (.t 38)),
  oN 40 39,
  oM 41 (.bin .gtr (.t 40) (.c (.int .i64 0)))] none)
 (.cond (.t 41) (.skip)
 (.exit 0)))
 (.block 1 (.seq (.region [oL 43 1 2,
  oT 44 6,
  oT 45 8,
  oT 46 9,
  oM 47 (.call (.c (.fn 97 [] [])) [(.t 43), (.t 44), (.t 45), (.t 46)]),
  oT 42 47,
  oM 48 (.extract (.t 42) 0),
  oM 49 (.extract (.t 42) 1),
  oM 11 (.alloc [.int .i64 0, .bool false]),
  ⟨none, .store 2 (.t 11) (.t 48), none⟩,
  oT 12 49] none)
 (.seq (.seq (.region [oT 50 12,
  oM 51 (.un .not (.t 50))] none)
 (.cond (.t 51) (.seq (.region [oM 4 (.mov (.c (.nils))),
  oM 5 (.mov (.c (.int .i64 6)))] none)
 (.ret))
 (.skip)))
 (.seq (.region [oT 52 10,
  oL 53 2 11,
  oM 54 (.bslice 2 1 [.int .i64 0, .bool false] [(0, 2, (.t 53))]),
  oM 55 (.append 2 16 [.int .i64 0, .bool false] (.t 52) (.t 54)),
  oT 10 55] none)
 (.region [oT 56 8,
  oF 57 0 11,
  oN 58 57,
  oM 59 (.bin .shl (.c (.int .i64 1)) (.t 58)),
  oM 60 (.bin .xor (.t 56) (.t 59)),
  oT 8 60] none)))))
-- pneumatic/homing.Find
def ic37 : IC := .seq (.region [oM 2 (.box (.t 0)),
  oM 4 (.mov (.c (.nils))),
  oM 5 (.mov (.c (.int .i64 0)))] none)
 (.seq (.region [oT 13 1,
  oM 14 (.len false (.t 13)),
  oT 6 14] none)
 (.seq (.seq (.region [oL 15 1 2,
  oT 16 6,
  oM 17 (.call (.c (.fn 80 [] [])) [(.t 15), (.t 16)]),
  oT 7 17] none)
 (.seq (.region [oT 18 7,
  oM 19 (.bin .neq (.t 18) (.c (.int .i64 0)))] none)
 (.cond (.t 19) (.seq (.region [oT 20 7,
  oM 4 (.mov (.c (.nils))),
  oT 5 20] none)
 (.ret))
 (.skip))))
 (.seq (.region [oT 21 1,
  oM 22 (.call (.c (.fn 93 [] [])) [(.t 21)]),
  oT 8 22] none)
 (.seq (.seq (.region [oL 23 1 2,
  oT 24 6,
  oT 25 8,
  oM 26 (.call (.c (.fn 95 [] [])) [(.t 24), (.t 25)]),
  oM 27 (.call (.c (.fn 94 [] [])) [(.t 23), (.t 26)]),
  oM 28 (.un .not (.t 27))] (some [[], [], [], [1, 2], [0, 3, 3], [4]]))
 (.cond (.t 28) (.seq (.region [oM 4 (.mov (.c (.nils))),
  oM 5 (.mov (.c (.int .i64 22)))] none)
 (.ret))
 (.skip)))
 (.seq (.region [oL 29 1 2,
  oT 30 6,
  oM 31 (.call (.c (.fn 96 [] [])) [(.t 29), (.t 30)]),
  oT 9 31] none)
 (.seq (.seq (.region [oT 32 9,
  oT 33 8,
  oM 34 (.idxs 1 (.t 32) (.t 33)),
  oN 35 34,
  oM 36 (.bin .lss (.t 35) (.c (.int .i64 0)))] none)
 (.cond (.t 36) (.seq (.region [oM 4 (.mov (.c (.nils))),
  oM 5 (.mov (.c (.int .i64 6)))] none)
 (.ret))
 (.skip)))
 (.seq (.region [oM 10 (.mov (.c (.nils)))] none)
 (.seq (.block 0 (.loop b37_0))
 (.seq (.region [oT 61 10,
  oT 4 61,
  oM 5 (.mov (.c (.int .i64 0)))] none)
 (.ret))))))))))
theorem fn37 : env0.fn 37 = some ⟨62, ic37, [.t 4, .t 5]⟩ := by kernel_rfl
set_option maxHeartbeats 8000000 in
theorem find37 (l : List Ex) (hsl : ∀ y ∈ l, Slim y) (e : List Bool) (h4 : zcc l e.length = 0 → e.length ≤ 4) : PF Try.prog 37 [.agg [.vs (cXs l)], vsB e] (zpw l e) := by
 have h28 := zo5 l hsl e.length
 have hel : (e.map fun b => ([.bool b] : List AV)).length = e.length := y09 ..
 refine zb1 env0_ok fn37 [(0, .agg [.vs (cXs l)]), (1, vsB e)] (by show 2 ≤ 62; decide) rfl fun w0 N0 => ?_
 unfold ic37 zpw
 repeat (first | refine za8 ?_ | refine za5 rfl ?_ | refine zai ?_ | refine zaa ?_ | refine za1 rfl ?_ | refine zam rfl rfl rfl rfl ?_ | refine zbd rfl rfl ?_ | refine zc1 rfl rfl ?_)
 rw [hel]
 refine zap rfl rfl h28 noC ?_
 by_cases hg : zcc l e.length = 0
 ·rw [if_pos hg, hg]
  obtain ⟨g1, g2, g3, g4⟩ := zla hg
  have h4 := h4 hg
  have h1 : 1 ≤ e.length := by omega
  have hD := zs6 (l := l) h1 h4
  have hb := zz2 h4 hD
  have hki := ztp h1 h4
  have hp4 := pow4 h4
  refine za1 rfl (onr rfl (za1 rfl (zci rfl rfl rfl (onu (zb8 rfl (zab (zaa (zsr rfl ?_))))))))
  refine za1 rfl ?_
  refine zap rfl rfl (index93 h1 h4) noC ?_
  refine za1 rfl (onu (za8 (za8 ?_)))
  refine zg4 env0_ok [(95, [.int .i64 (e.length : Nat), .int .i64 (zd9 e : Nat)], vsI (zdn e)), (94, [.agg [.vs (cXs l)], vsI (zdn e)], .bool (zdw l (zdn e)))] (fun x hx => by
   rcases y0m.1 hx with rfl | hx
   ·exact pos95 h1 h4
   obtain rfl := y0e.1 hx
   exact zge l hsl (zdn e) (zow hg)) (fun f => Nat.beq f 95 || Nat.beq f 94) rfl rfl rfl ?_
  refine zam rfl rfl rfl rfl (za1 rfl (za1 rfl ?_))
  refine zap rfl rfl zbq noC ?_
  refine zap rfl rfl (zda (by decide) zbq) noC ?_
  cases hf : zdw l (zdn e) with
  | false =>
   refine zfr rfl rfl (onu (zb4 rfl (zsr rfl (za1 rfl (za1 rfl (onu (zak (za4 ?_))))))))
   exact zaf ⟨.inr rfl, _, rfl, rfl⟩
  | true =>
   rw [if_pos rfl]
   refine zfr rfl rfl (onu (zb8 rfl (zab (zaa (zsr rfl (zam rfl rfl rfl rfl (za1 rfl ?_)))))))
   refine zap rfl rfl (levels96 l hsl h1 h4 hg) noC ?_
   have hgk := zki (D := zok l e.length) (k := zd9 e) (by rw [hD.len]; exact hki)
   refine za1 rfl (onu (za8 (zsr rfl (za1 rfl (za1 rfl (zbh rfl rfl (by omega) (by assumption) rfl (za7 rfl rfl ?_)))))))
   by_cases hneg : (zok l e.length).getD (zd9 e) 0 < 0
   ·rw [if_pos hneg]
    refine zaq rfl rfl rfl (fun _ => ?_) fun h => absurd hneg (of_decide_eq_false h)
    refine onu (zb4 rfl (zsr rfl (za1 rfl (za1 rfl (onu (zak (za4 ?_)))))))
    exact zaf ⟨.inr rfl, _, rfl, rfl⟩
   rw [if_neg hneg]
   refine zaq rfl rfl rfl (fun h => absurd (of_decide_eq_true h) hneg) fun _ => ?_
   refine onu (zb8 rfl (zab (zaa (zsr rfl (za1 rfl (onu (za8 (zac ?_))))))))
   generalize hDD : zok l e.length = D at *
   refine zbu (fun mm S => ∃ k d A, mm = d ∧ k < 2 ^ e.length ∧ D.getD k 0 = (d : Int) ∧ zjx l e.length D (D.getD (zd9 e) 0).toNat (zd9 e) = A ++ zjx l e.length D d k ∧ A.length + d ≤ 100 ∧
     S = st 62 [(2, .vptr [.vs (cXs l)]), (6, .int .i64 (e.length : Nat)), (8, .int .i64 (k : Nat)), (9, vsI D), (10, .ms 0 0 2 0 A.length none)] [(0, 0, .cells (cSs A).flatten)] 1 1) (D.getD (zd9 e) 0).toNat
    (zcp [(none, [])] [(0, 0, [.vs (cXs l)])] rfl rfl rfl (.cons rfl rfl .nil) (.new .nil) (l' := [(2, .vptr [.vs (cXs l)]), (6, .int .i64 (e.length : Nat)), (8, .int .i64 (zd9 e : Nat)), (9, vsI D), (10, .ms 0 0 2 0 0 none)]) (.cons rfl (.fptr rfl rfl) (.cons rfl (.same rfl) (.cons rfl (.same rfl) (.cons rfl (.same rfl) (.cons rfl (.grow rfl) .nil)))))) ⟨zd9 e, _, [], rfl, hki, by omega, rfl, by have := (hb _ hki).2; show 0 + _ ≤ _; omega, rfl⟩ ?_
   rintro mm S ⟨k, d, A, rfl, hk, hkd, hA, hal, rfl⟩
   have hgk := zki (D := D) (k := k) (by rw [hD.len]; exact hk)
   unfold b37_0
   refine za8 (zsr rfl (za1 rfl (za1 rfl (zbh rfl rfl (by omega) (by assumption) rfl (za7 rfl rfl ?_)))))
   cases mm with
   | zero =>
    refine zaq rfl rfl rfl (fun h => absurd (of_decide_eq_true h) (by omega)) fun _ => ?_
    rw [zjx, y0p] at hA
    rw [hA]
    refine onu (zb8 rfl (zbm (zao ?_)))
    refine zcn ?_
    refine zbl (zaa (zsr rfl (za1 rfl (za1 rfl (za1 rfl (onu (zak ?_)))))))
    refine zaf ⟨.inr rfl, _, rfl, ?_⟩
    exact congrArg AV.tup (zje (zut (d := 2) A rfl) rfl)
   | succ d =>
    refine zaq rfl rfl rfl (fun _ => ?_) fun h => absurd (of_decide_eq_false h) (by omega)
    obtain ⟨i, hfi, him, hDi⟩ := zpr h1 h4 hD hk (by omega)
    have hin := zz9 him
    have h97 := first97 l hsl h1 h4 hg hk D hD.len hb
    unfold zy5 at h97
    rw [hfi] at h97
    simp only at h97
    rw [zjx, hfi] at hA
    simp only at hA
    have hbl := zca e.length k
    have hx := xorE (e := zbw e.length k) (by rw [hbl]; exact h1) (by rw [hbl]; exact h4) (by rw [hbl]; exact hin)
    rw [zfx h1 h4 hk, show zd9 (zcq (zbw e.length k) i) = nxt e.length k i from rfl] at hx
    refine onu (zb4 rfl (zab (zaa (zac (zsr rfl (zam rfl rfl rfl rfl (za1 rfl (za1 rfl (za1 rfl ?_)))))))))
    refine zap rfl rfl h97 noC ?_
    unfold cS skE
    repeat (first | refine za8 ?_ | refine za5 rfl ?_ | refine zai ?_ | refine zaa ?_ | refine zab ?_ | refine zb8 rfl ?_ | refine za1 rfl ?_ | refine zam rfl rfl rfl rfl ?_ | refine zad rfl rfl rfl rfl rfl rfl rfl ?_ | refine zau ?_ | refine zfr rfl rfl ?_ | refine zbj rfl rfl ?_)
    refine zm1 [[.int .i64 (i : Nat), .bool (!((zbw e.length k).getD i false))]] rfl rfl rfl rfl ?_
    refine zbf [[.int .i64 (i : Nat), .bool (!((zbw e.length k).getD i false))]] rfl rfl rfl (fun h => Nat.noConfusion h) rfl (by decide) rfl (zjs _).symm (by show _ + 1 ≤ _; omega) ?_
    refine za1 rfl (onR rfl (za1 rfl (za9 rfl (za7 rfl rfl ?_))))
    refine zb6 (op := .shl) rfl rfl (shl1 (show i < 4 by omega)) ?_
    refine zb6 (op := .xor) rfl rfl hx ?_
    refine za1 rfl (zai (zb7 ?_))
    exact zav (show d < d + 1 by omega) (zcp [(some (0, 2), (cSs (A ++ [skE e.length k i])).flatten)] [] rfl rfl rfl .nil (.cons (by rw [zt9]; rfl) (.keep (cSs_hasM _)) .nil) (l' := [(2, .vptr [.vs (cXs l)]), (6, .int .i64 (e.length : Nat)), (8, .int .i64 (nxt e.length k i : Nat)), (9, vsI D), (10, .ms 0 0 2 0 (A ++ [skE e.length k i]).length none)]) (.cons rfl (.same rfl) (.cons rfl (.same rfl) (.cons rfl (.same rfl) (.cons rfl (.same rfl) (.cons (by rw [y0j]; rfl) (.ms rfl) .nil))))))
     ⟨nxt e.length k i, d, A ++ [skE e.length k i], rfl, zmz h1 h4, by omega, by rw [hA, y1j]; rfl, by rw [y0j, y17]; omega, rfl⟩
 ·rw [if_neg hg]
  refine za1 rfl (onr rfl (za1 rfl ?_))
  refine zaq rfl rfl rfl (fun h => ?_) fun h => absurd (by simpa using h) hg
  refine onu (zb4 rfl (zsr rfl (za1 rfl (za1 rfl (za1 rfl (onu (zak (za4 ?_))))))))
  exact zaf ⟨.inr rfl, _, rfl, rfl⟩
def zpn (l : List Ex) : List Sk → List Bool → Int
 | [], e => if zd9 e = 0 then 0 else 3
 | s :: r, e => if s.a < 0 ∨ s.a ≥ e.length then 2 else if e.getD s.a.toNat false = s.o then 14 else if zqe l e s.a.toNat then zpn l r (zcq e s.a.toNat) else 22
theorem own44_ok : zqh Try.prog (env0.tab [] []) 80 44 (fun _ => none) (allE.map fun e => ([vsB e], e.map AV.bool)) = true := by kernel_rfl
theorem zl4 : ∀ l : List Bool, flat.flatL (l.map AV.bool) = true
 | [] => rfl
 | z :: l => by simp only [y1h, flat.flatL, zl4 l]; rfl
theorem clone44 {e : List Bool} (h1 : 1 ≤ e.length) (h4 : e.length ≤ 4) : PFo Try.prog 44 [vsB e] 1 e.length none (e.map AV.bool) := by
 have := ze1 (env0_ok.tab TabOk.nil) own44_ok _ (y0o.2 ⟨e, zdi e h1 h4, rfl⟩)
 simpa using this
-- slices.Index[[]pneumatic/api.Stroke,pneumatic/api.Stroke]
-- slices.Contains[[]pneumatic/api.Stroke,pneumatic/api.Stroke]
structure Prv (l : List Ex) (n : Nat) (D : List Int) (k : Nat) : Prop where
 shut : zdw l (zdn (zbw n k)) = false → D.getD k 0 = -1
 zero : zdw l (zdn (zbw n k)) = true → (D.getD k 0 = 0 ↔ k = 0)
 near : zdw l (zdn (zbw n k)) = true → ∀ i ∈ mv l n k, (D.getD (nxt n k i) 0 < 0 ↔ D.getD k 0 < 0) ∧ D.getD (nxt n k i) 0 - D.getD k 0 ≤ 1 ∧ D.getD k 0 - D.getD (nxt n k i) 0 ≤ 1
 low : zdw l (zdn (zbw n k)) = true → D.getD k 0 ≤ 0 ∨ ∃ i ∈ mv l n k, D.getD (nxt n k i) 0 = D.getD k 0 - 1
-- slices.IndexFunc[[]int,int]
-- slices.ContainsFunc[[]int,int]
theorem zq4 {l : List Ex} {n : Nat} {D : List Int} (h1 : 1 ≤ n) (h4 : n ≤ 4) (hD : LevW l n D) : ∀ (d k : Nat), k < 2 ^ n → D.getD k 0 = (d : Int) → zpn l (zjx l n D d k) (zbw n k) = 0
 | 0, k, hk, hd => by
  have := hD.zer k hk hd
  subst this
  rw [zjx, zpn, zfx h1 h4 hk, if_pos rfl]
 | d + 1, k, hk, hd => by
  obtain ⟨i, hf, hi, e⟩ := zpr h1 h4 hD hk (by omega)
  have hin := zz9 hi
  have hm := (y1s.1 hi).2
  rw [zjx, hf]
  simp only
  rw [zpn]
  have ha : (skE n k i).a = (i : Int) := rfl
  have ho : (skE n k i).o = !((zbw n k).getD i false) := rfl
  rw [ha, ho, zca, if_neg (by omega), y0w, if_neg (by cases (zbw n k).getD i false <;> simp), if_pos hm, ← znn h1 h4]
  exact zq4 h1 h4 hD d (nxt n k i) (zmz h1 h4) (by omega)
theorem posE_set (e : List Bool) (i : Nat) (b : Bool) : zdn (e.set i b) = (zdn e).set i (if b then 2 else 0) := by
 unfold zdn
 rw [List.map_set]
-- pneumatic/pneumatictop.caseHomes$1
def ic112 : IC := .seq (.region [oM 2 (.alloc [.int .i64 0, .int .i64 0, .nils])] none)
 (.seq (.region [oT 3 0,
  oM 4 (.build [.int .i64 0, .int .i64 0, .nils] [(0, 1, (.c (.int .i64 1))), (1, 1, (.t 3))]),
  ⟨none, .store 3 (.t 2) (.t 4), none⟩] none)
 (.ret))
theorem fn112 : env0.fn 112 = some ⟨5, ic112, [.cell 2 (some 3)]⟩ := by kernel_rfl
theorem on112 (i : Int) : PF Try.prog 112 [.int .i64 i] (.agg (cX (.nd 1 i []))) := by
 refine zb1 env0_ok fn112 [(0, .int .i64 i)] (by show 1 ≤ 5; decide) rfl fun w0 N0 => ?_
 unfold ic112
 refine zsr rfl (zau (onu ?_))
 refine zsr rfl (za1 rfl (zfd rfl rfl (zad rfl rfl rfl rfl rfl rfl rfl (onu (zak ?_)))))
 exact zaf ⟨.inr rfl, _, rfl, rfl⟩
theorem on112t {w0 : World} {N0 : Nat} (i : Int) (H : HS) : CT Try.prog w0 N0 (.fn 112 [] []) [.int .i64 i] H fun v H' => v = .agg (cX (.nd 1 i [])) ∧ H' = H :=
 zhr (zni (on112 i) fun h => Bool.noConfusion (show false = true from h))
-- pneumatic/pneumatictop.caseHomes$2
def ic113 : IC := .seq (.region [oM 3 (.alloc [.int .i64 0, .int .i64 0, .nils])] none)
 (.seq (.region [oN 4 1,
  oT 5 0,
  oM 6 (.call (.t 4) [(.t 5)]),
  oM 7 (.bslice 3 1 [.int .i64 0, .int .i64 0, .nils] [(0, 3, (.t 6))]),
  oM 8 (.build [.int .i64 0, .int .i64 0, .nils] [(0, 1, (.c (.int .i64 2))), (2, 1, (.t 7))]),
  ⟨none, .store 3 (.t 3) (.t 8), none⟩] none)
 (.ret))
theorem fn113 : env0.fn 113 = some ⟨9, ic113, [.cell 3 (some 3)]⟩ := by kernel_rfl
theorem not113 (i : Int) : PF Try.prog 113 [.int .i64 i, .vptr [.fn 112 [] []]] (.agg (cX (.nd 2 0 [.nd 1 i []]))) := by
 refine zb1 env0_ok fn113 [(0, .int .i64 i), (1, .vptr [.fn 112 [] []])] (by show 2 ≤ 9; decide) rfl fun w0 N0 => ?_
 unfold ic113
 refine zsr rfl (zau (onu ?_))
 refine zsr rfl (za7 rfl rfl (za1 rfl (zsb _ rfl rfl (on112t i _) (fun _ _ _ _ hm => absurd hm y0d) fun v H hF => ?_)))
 obtain ⟨e1, e2⟩ := hF
 subst e1 e2
 refine zch rfl rfl (zfd rfl rfl (zad rfl rfl rfl rfl rfl rfl rfl (onu ?_)))
 refine zeg [(some (0, 0), [.int .i64 2, .int .i64 0, .vs (cXs [.nd 1 i []])])] [(1, 1, cX (.nd 1 i []))] [(3, .mptr 0 0 0)] rfl (.cons rfl rfl .nil) (.cons rfl (.cons (.same rfl) (.cons (.same rfl) (.cons (.fms rfl rfl (zft _) ⟨[], by simp [cXs]⟩) .nil))) .nil) (.cons rfl (.mptr rfl) .nil) ?_
 refine zak ?_
 exact zaf ⟨.inr rfl, _, rfl, rfl⟩
theorem zzc {w0 : World} {N0 : Nat} (i : Int) (H : HS) : CT Try.prog w0 N0 (.fn 113 [] [.vptr [.fn 112 [] []]]) [.int .i64 i] H fun v H' => v = .agg (cX (.nd 2 0 [.nd 1 i []])) ∧ H' = H :=
 zhr (zni (not113 i) fun h => Bool.noConfusion (show false = true from h))
end Go.Proofs.Ytoiblgbaeglgoaa
namespace Go.Am
open Go Go.RowKit
def zef (pres : List (List Nat)) (n : Nat) (done : List Nat) : List Nat := (List.range n).filter fun i => !done.contains i && (pres.getD i []).all fun p => done.contains p
def AllL (p : Nat → Prop) : List Nat → Prop
 | [] => True
 | i :: l => p i ∧ AllL p l
theorem AllL.mem {p : Nat → Prop} : ∀ {l : List Nat}, AllL p l → ∀ i ∈ l, p i
 | [], _, i, h => by cases h
 | j :: l, ⟨h1, h2⟩, i, h => by
  rcases y0m.1 h with rfl | h
  ·exact h1
  ·exact AllL.mem h2 i h
def AnyF (P : Program) (w0 : World) (N0 : Nat) (rd : Option (Nat × Nat)) (ios : List Opr) (pres : List (List Nat)) : Nat → List Nat → AS → (AS → Prop) → Prop
 | 0, done, S, K => zef pres ios.length done = [] ∧ K S
 | n + 1, done, S, K => zef pres ios.length done ≠ [] ∧ AllL (fun i => ∀ io, ios[i]? = some io → zcj S.size io.dst = true ∧
   (
    (zay S io = some false ∧ AnyF P w0 N0 rd ios pres n (i :: done) (S.put io.dst (.tup [])) K) ∨
    (zay S io = some true ∧ ∃ Fk : AS → AV → Prop, Stp P w0 N0 rd io S Fk ∧ ∀ S1 v, Fk S1 v → zcj S1.size io.dst = true ∧ AnyF P w0 N0 rd ios pres n (i :: done) (S1.put io.dst v) K))) (zef pres ios.length done)
section
variable {P : Program} {w0 w : World} {N0 : Nat} {I : LI} {S S' S1 : AS} {a : Act} {rd : Option (Nat × Nat)} {Q : Exit → AS → Prop}
theorem zjf {ios : List Opr} {pres : List (List Nat)} {ops : Array Oper} {listed : Array Bool} {done : List Nat} (hpr : pres = zij ops) (hsz : ios.length = ops.size) (hlz : listed.size = ops.size) (hl : ∀ i, listed.getD i false = done.contains i) (i : Nat) :
  i ∈ Region.ready .any ops listed ↔ i ∈ zef pres ios.length done := by
 unfold zef
 rw [mem_ready, y1s, y10]
 constructor
 ·rintro ⟨hu, o, hoi, hpre⟩
  have hlt : i < ops.size := (y0b.1 hoi).1
  have hil : i < listed.size := by omega
  have hu' : listed.getD i false = false := by
   simp only [y03, y1o hil, y18] at hu ⊢
   exact hu
  refine ⟨by omega, ?_⟩
  rw [y0h, ← hl, hu', y0f]
  refine ⟨rfl, fun p hp => ?_⟩
  have hp' : pres[i]? = some ((o.after.toList.filter (Region.binds .any ·)).map (·.on)) := by rw [hpr]; simp [zij, hoi]
  rw [y06, hp', y18] at hp
  obtain ⟨e, he, rfl⟩ := y0o.1 hp
  obtain ⟨he1, he2⟩ := y1s.1 he
  rw [← hl]
  exact hpre e (by simpa using he1) he2
 ·rintro ⟨hi, h⟩
  rw [y0h, ← hl, y0f] at h
  obtain ⟨h1, h2⟩ := h
  have hio' : i < ops.size := by omega
  have hil : i < listed.size := by omega
  refine ⟨?_, ops[i], by simp [hio'], fun e he hb => ?_⟩
  ·have h1 : listed.getD i false = false := by simpa using h1
   simp only [y03, y1o hil, y18] at h1 ⊢
   exact h1
  ·have hp : pres[i]? = some ((ops[i].after.toList.filter (Region.binds .any ·)).map (·.on)) := by
    rw [hpr]; simp [zij, hio']
   have := h2 e.on (by rw [y06, hp, y18]; exact y0o.2 ⟨e, y1s.2 ⟨by simpa using he, hb⟩, rfl⟩)
   rw [← hl] at this
   exact this
theorem any_all {ios : List Opr} {pres : List (List Nat)} {ops : Array Oper} (hio : ops.toList.mapM (zi0 P ops) = some ios) (hpr : pres = zij ops)
  {r : Option Nat} {n : Nat} {Qc : Exit → Act → World → Prop} {K : AS → Prop} : ∀ (m : Nat) (done : List Nat) (listed : Array Bool) (S : AS) (I : LI) (a : Act) (w : World) (fuel : Nat), m ≤ fuel → listed.size = ops.size → (∀ i, listed.getD i false = done.contains i) →
   Rel w0 N0 I S a w → RdOk I rd r → AnyF P w0 N0 rd ios pres m done S K → (∀ I' S' a' w', K S' → Rel w0 N0 I' S' a' w' → Evo I w I' w' → Qc .normal a' w') → wpAnyIn (Wd r) n P .any ops Qc fuel listed a w := by
 obtain ⟨hlen, hget⟩ := zia hio
 have hsz : ios.length = ops.size := by simpa using hlen
 intro m
 induction m with
 | zero =>
  intro done listed S I a w fuel _ hlz hl hR ho ⟨h1, hK⟩ hQ
  have hr : Region.ready .any ops listed = [] := by
   cases hr : Region.ready .any ops listed with
   | nil => rfl
   | cons i l =>
    have hi : i ∈ Region.ready .any ops listed := by rw [hr]; exact y05 ..
    rw [zjf hpr hsz hlz hl, h1] at hi
    cases hi
  cases fuel with
  | zero => exact ⟨hr, hQ I S a w hK hR (Evo.refl I w)⟩
  | succ fuel => exact ⟨fun _ => hQ I S a w hK hR (Evo.refl I w), fun i hi => by rw [hr] at hi; cases hi⟩
 | succ m ih =>
  intro done listed S I a w fuel hf hlz hl hR ho ⟨hne, hall⟩ hQ
  cases fuel with
  | zero => omega
  | succ fuel =>
   refine ⟨fun hr => ?_, fun i hi => ?_⟩
   ·exfalso
    cases hrl : zef pres ios.length done with
    | nil => exact hne hrl
    | cons i l =>
     have hi : i ∈ zef pres ios.length done := by rw [hrl]; exact y05 ..
     rw [← zjf hpr hsz hlz hl, hr] at hi
     cases hi
   ·have hi2 := (zjf hpr hsz hlz hl i).1 hi
    have hstep := hall.mem i hi2
    rw [mem_ready] at hi
    obtain ⟨hu, o, hoi, hpre⟩ := hi
    have hlt : i < ops.size := (y0b.1 hoi).1
    obtain ⟨io, hio1, hcom⟩ := hget i o (by rw [y1x]; exact hoi)
    obtain ⟨hok, hor⟩ := hstep io hio1
    have hdo : o.dst = io.dst := (zkw hcom).1
    have hl' : ∀ k, (listed.setIfInBounds i true).getD k false = (i :: done).contains k := fun k => by
     rw [zf1 (by omega), hl, List.contains_cons]
     by_cases e : k = i
     ·subst e; simp
     ·simp [e]
    have hnext : ∀ (I' : LI) (S1 : AS) (v : AV) (u : Value) (w' : World), zcj S1.size io.dst = true → AnyF P w0 N0 rd ios pres m (i :: done) (S1.put io.dst v) K → Rel w0 N0 I' S1 a w' → VRel w' I'.ro (some I') v u → Evo I w I' w' →
      wpAnyIn (Wd r) n P .any ops Qc fuel (listed.setIfInBounds i true) (a.put o.dst u) w' := fun I' S1 v u w' hok hA hR' hV hE => by
     rw [hdo]
     exact ih (i :: done) _ (S1.put io.dst v) I' _ w' fuel (by omega) (by simp [hlz]) hl' (hR'.put hok hV) (ho.evo hE) hA fun I'' S'' a'' w'' k x y => hQ I'' S'' a'' w'' k x (hE.trans y)
    unfold wpOpIn
    simp only [hoi]
    rcases hor with ⟨hw, hA⟩ | ⟨hw, Fk, hst, hk⟩
    ·rw [if_neg (by rw [zfq hR hcom hw]; simp)]
     exact ⟨fun _ _ => trivial, hnext I S (.tup []) undef w hok hA hR (.tup rfl (by simp)) (Evo.refl I w)⟩
    ·rw [if_pos (zfq hR hcom hw)]
     exact hst ops o hcom n I a w r _ Qc hR ho fun I' S1 v u w' hF hR' hV hE => hnext I' S1 v u w' (hk S1 v hF).1 (hk S1 v hF).2 hR' hV hE
theorem T_any (hm : P.follows .mixedOrders = true) {ios : List Opr} {pres : List (List Nat)} (h : AnyF P w0 N0 rd ios pres ios.length [] S fun S' => Q .normal S') : T P w0 N0 rd (.region ios (some pres)) S Q := fun code hcom n I a w r hr ho => by
 cases hcom with
 | @region id ops draw _ _ h1 hp =>
  cases draw with
  | false => simp at hp
  | true =>
   refine wpIn_region_any hm ?_
   obtain ⟨hlen, _⟩ := zia h1
   simp at hlen
   obtain ⟨k1, k2⟩ := hr.hrel.drew
   refine any_all h1 (by simpa using hp) ios.length [] _ S I a _ ops.size (by omega) (by simp) (fun i => by rw [zil]; rfl) ⟨hr.clk, ⟨hr.tmps.1, fun d v hv => (hr.tmps.2 d v hv).evo k2⟩, k1, hr.marks⟩ ho h fun I' S' a' w' hK hR hE => ⟨I', S', hK, hR, k2.trans hE⟩
end
section
variable {P : Program} {w0 : World} {N0 : Nat} {rd : Option (Nat × Nat)} {ios : List Opr} {pres : List (List Nat)} {n nn nx nx' ck ck' i : Nat} {mk : List (Nat × Nat)} {done : List Nat} {K : AS → Prop} {l : List (Nat × AV)} {hp hp' : List (Nat × Nat × AObj)} {k : List Fr} {Q : Exit → AS → Prop} {md : Md}
abbrev StF (P : Program) (w0 : World) (N0 : Nat) (rd : Option (Nat × Nat)) (ios : List Opr) (pres : List (List Nat)) (n : Nat) (done : List Nat) (S : AS) (K : AS → Prop) (i : Nat) : Prop := ∀ io, ios[i]? = some io → zcj S.size io.dst = true ∧
   (
    (zay S io = some false ∧ AnyF P w0 N0 rd ios pres n (i :: done) (S.put io.dst (.tup [])) K) ∨
    (zay S io = some true ∧ ∃ Fk : AS → AV → Prop, Stp P w0 N0 rd io S Fk ∧ ∀ S1 v, Fk S1 v → zcj S1.size io.dst = true ∧ AnyF P w0 N0 rd ios pres n (i :: done) (S1.put io.dst v) K))
theorem AnyF.succ {S : AS} (h1 : zef pres ios.length done ≠ []) (h2 : AllL (StF P w0 N0 rd ios pres n done S K) (zef pres ios.length done)) : AnyF P w0 N0 rd ios pres (n + 1) done S K := ⟨h1, h2⟩
theorem AnyF.one {S : AS} (i : Nat) (h1 : zef pres ios.length done = [i]) (h2 : StF P w0 N0 rd ios pres n done S K i) : AnyF P w0 N0 rd ios pres (n + 1) done S K := ⟨by rw [h1]; simp, by rw [h1]; exact ⟨h2, trivial⟩⟩
theorem AnyF.fin {S : AS} (h1 : zef pres ios.length done = []) (h2 : K S) : AnyF P w0 N0 rd ios pres 0 done S K := ⟨h1, h2⟩
theorem af_op {d : Nat} {op : IOp} {v : AV} (hio : ios[i]? = some ⟨some d, op, none⟩) (hd : zcj nn (some d) = true) (hi : iop (st nn l hp nx ck mk) op = some (v, st nn l hp' nx' ck' mk)) (go : AnyF P w0 N0 rd ios pres n (i :: done) (st nn ((d, v) :: l) hp' nx' ck' mk) K) : StF P w0 N0 rd ios pres n done (st nn l hp nx ck mk) K i := fun io h => by
 rw [hio] at h
 injection h with h
 subst h
 exact ⟨hd, .inr ⟨rfl, _, zm8 hi, fun S1 v1 ⟨e1, e2⟩ => by subst e1 e2; exact ⟨hd, go⟩⟩⟩
theorem zwn {op : IOp} {v : AV} (hio : ios[i]? = some ⟨none, op, none⟩) (hi : iop (st nn l hp nx ck mk) op = some (v, st nn l hp' nx' ck' mk)) (go : AnyF P w0 N0 rd ios pres n (i :: done) (st nn l hp' nx' ck' mk) K) : StF P w0 N0 rd ios pres n done (st nn l hp nx ck mk) K i := fun io h => by
 rw [hio] at h
 injection h with h
 subst h
 exact ⟨rfl, .inr ⟨rfl, _, zm8 hi, fun S1 v1 ⟨e1, e2⟩ => by subst e1 e2; exact ⟨rfl, go⟩⟩⟩
theorem af_ct {d : Nat} {fa : Arg} {fv : AV} {args : List Arg} {vs : List AV} (F : AV → HS → Prop) (hio : ios[i]? = some ⟨some d, .call fa args, none⟩) (hd : zcj nn (some d) = true) (hf : zbt fa l = some fv) (ha : zht args l = some vs) (hc : CT P w0 N0 fv vs ⟨hp, nx, ck⟩ F)
  (hm : ∀ v H, F v H → zdd mk H.heap) (go : ∀ v H, F v H → AnyF P w0 N0 rd ios pres n (i :: done) (st nn ((d, v) :: l) H.heap H.next H.clk mk) K) : StF P w0 N0 rd ios pres n done (st nn l hp nx ck mk) K i := fun io h => by
 rw [hio] at h
 injection h with h
 subst h
 refine ⟨hd, .inr ⟨rfl, fun S2 v2 => ∃ H, F v2 H ∧ S2 = (st nn l hp nx ck mk).withH H, zm7 rfl ((zbi fa).trans hf) ((zj0 args).trans ha) hc hm, fun S1 v1 h => ?_⟩⟩
 obtain ⟨H, hF, e⟩ := h
 subst e
 exact ⟨hd, go v1 H hF⟩
theorem z_any (hm : P.follows .mixedOrders = true) {S : AS} (h : ∀ rd, AnyF P w0 N0 rd ios pres ios.length [] S fun S' => unw P w0 N0 md k Q .normal S') : Zm P w0 N0 md (.region ios (some pres)) S k Q := ⟨zgd fun rd => T_any hm (h rd)⟩
end
end Go.Am
namespace Go.Proofs.Ytoiblgbaeglgoaa
open Go Go.Am
theorem zlt {i : Nat} {D : List Nat} (hi : i ∉ D) : ∀ l : List Nat, l.Nodup → i ∈ l → (l.filter fun j => !D.contains j).length = (l.filter fun j => !(i :: D).contains j).length + 1
 | [], _, h => by cases h
 | j :: l, hn, h => by
  obtain ⟨h1, h2⟩ := List.nodup_cons.1 hn
  rw [y1m, y1m]
  by_cases e : j = i
  ·subst e
   have e1 : (!D.contains j) = true := by simpa using hi
   have e2 : (!(j :: D).contains j) = false := by simp
   rw [if_pos e1, if_neg (by rw [e2]; exact Bool.false_ne_true), y0n]
   congr 2
   refine List.filter_congr fun x hx => ?_
   have hx2 : x ≠ j := fun e => h1 (e ▸ hx)
   simp [hx2]
  ·have hm : i ∈ l := (y0m.1 h).resolve_left fun e2 => e e2.symm
   have ih := zlt hi l h2 hm
   have e3 : (!(i :: D).contains j) = (!D.contains j) := by simp [e]
   rw [e3]
   split
   ·rw [y0n, y0n, ih]
   ·exact ih
theorem zw6 {p : Nat → Prop} : ∀ {l : List Nat}, (∀ i ∈ l, p i) → AllL p l
 | [], _ => trivial
 | i :: _, h => ⟨h i (y05 ..), zw6 fun j hj => h j (y04 _ hj)⟩
theorem zvq {pres : List (List Nat)} {N : Nat} {D : List Nat} (hp : ∀ i < N, ∀ p ∈ pres.getD i [], p < i) (h : zef pres N D = []) : ∀ i < N, i ∈ D := by
 intro i
 induction i using Nat.strongRecOn with
 | ind i ih =>
  intro hi
  refine Classical.byContradiction fun hni => ?_
  have : i ∈ zef pres N D := by
   unfold zef
   rw [y1s]
   refine ⟨y10.2 hi, ?_⟩
   rw [y0h, y0f]
   refine ⟨by simpa using hni, fun p hpp => ?_⟩
   have := hp i hi p hpp
   exact y15.2 (ih p this (by omega))
  rw [h] at this
  cases this
theorem zwr {P : Program} {w0 : World} {N0 : Nat} {rd : Option (Nat × Nat)} {ios : List Opr} {pres : List (List Nat)} {K : AS → Prop} (hp : ∀ i < ios.length, ∀ p ∈ pres.getD i [], p < i) (I : List Nat → AS → Prop)
  (step : ∀ n D S i, I D S → i < ios.length → i ∉ D → (∀ p ∈ pres.getD i [], p ∈ D) → (∀ S', I (i :: D) S' → AnyF P w0 N0 rd ios pres n (i :: D) S' K) → StF P w0 N0 rd ios pres n D S K i)
  (fin : ∀ D S, I D S → (∀ i < ios.length, i ∈ D) → K S) : ∀ (n : Nat) (D : List Nat) (S : AS), I D S → ((List.range ios.length).filter fun i => !D.contains i).length = n → AnyF P w0 N0 rd ios pres n D S K
 | 0, D, S, hI, hn => by
  have h0 := y1k.1 hn
  rw [List.filter_eq_nil_iff] at h0
  have hall : ∀ i < ios.length, i ∈ D := fun i hi => by
   have := h0 i (y10.2 hi)
   simpa using this
  refine ⟨?_, fin D S hI hall⟩
  unfold zef
  rw [List.filter_eq_nil_iff]
  intro i hi
  have := y15.2 (hall i (y10.1 hi))
  rw [this]
  simp
 | n + 1, D, S, hI, hn => by
  refine AnyF.succ (fun h => ?_) (zw6 fun i hi => ?_)
  ·have hall := zvq hp h
   rw [List.filter_eq_nil_iff.2 fun i hi => by
    have := y15.2 (hall i (y10.1 hi))
    rw [this]
    simp] at hn
   cases hn
  ·unfold zef at hi
   rw [y1s, y0h, y0f] at hi
   obtain ⟨h1, h2, h3⟩ := hi
   have h2 : i ∉ D := by simpa using h2
   refine step n D S i hI (y10.1 h1) h2 (fun p hp => y15.1 (h3 p hp)) fun S' hI' => zwr hp I step fin n (i :: D) S' hI' ?_
   have := zlt h2 (List.range ios.length) List.nodup_range h1
   omega
theorem zz5 (d : Nat) (v : AV) (l : List (Nat × AV)) : zbn d ((d, v) :: l) = some v := by
 rw [zbn, Nat.beq_refl]
theorem zms {d t : Nat} (h : d ≠ t) (v : AV) (l : List (Nat × AV)) : zbn t ((d, v) :: l) = zbn t l := by
 rw [zbn]
 cases hb : Nat.beq d t with
 | true => exact absurd (y0r hb) h
 | false => rfl
def Lk (base : List (Nat × AV)) (dv : Nat → Option (Nat × AV)) (D : List Nat) (l : List (Nat × AV)) : Prop :=
 (∀ t v, (t, v) ∈ base → zbn t l = some v) ∧ ∀ j d v, dv j = some (d, v) → j ∈ D → zbn d l = some v
theorem Lk.add {base : List (Nat × AV)} {dv dv' : Nat → Option (Nat × AV)} {D : List Nat} {l : List (Nat × AV)} {i d : Nat} {v : AV} (h : Lk base dv D l) (hi : dv' i = some (d, v)) (hb : ∀ t v, (t, v) ∈ base → d ≠ t) (hs : ∀ j, j ∈ D → j ≠ i → dv' j = dv j) (hd : ∀ j e w, j ≠ i → dv' j = some (e, w) → d ≠ e) (hni : i ∉ D) :
  Lk base dv' (i :: D) ((d, v) :: l) := by
 refine ⟨fun t w ht => by rw [zms (hb t w ht)]; exact h.1 t w ht, fun j e w hj hm => ?_⟩
 by_cases hji : j = i
 ·subst hji
  rw [hi] at hj
  injection hj with hj
  injection hj with h1 h2
  subst h1 h2
  exact zz5 ..
 ·rw [zms (hd j e w hji hj)]
  have hm2 : j ∈ D := (y0m.1 hm).resolve_left hji
  exact h.2 j e w (by rw [← hs j hm2 hji]; exact hj) hm2
end Go.Proofs.Ytoiblgbaeglgoaa
