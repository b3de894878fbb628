/-
  BOUNDS WITHOUT A NEGATIVE ONE HAVE NO NEGATIVE CYCLE; Free.; A SQUARE OF BOUNDS: its cells; each.; THE SQUARE OF BOUNDS: of.; THE SQUARE IS CLOSED: lower, close.; REGIONS IN ALL THEIR ORDERS BY AN INVARIANT.; THE BOUNDS OF A SQUARE: the region that makes the outer list.; MAKE OF A LIST OF A LENGTH THAT IS NOT KNOWN; STATES PUT ANEW, WITH MARKS; RESULTS IN CELLS.; GRAPHS AS VALUES; their checks.; A
-/
import Derived.Test.YtfbeableaihooaaLX1
namespace Go.Proofs.Ytfbeableaihooaa
open Go Go.Am
theorem noEsc : ∀ g, zc9 Try.prog g = false := fun (g : Nat) => by
 by_cases h : g < 116
 ·have k : ((List.range 116).all fun g => !(zc9 Try.prog g)) = true := by kernel_rfl
  have := y0b.1 k g (y0j.2 h)
  simpa using this
 ·have hs : Try.prog.funcs.size = 116 := by kernel_rfl
  unfold zc9
  rw [y2l (by rw [hs]; omega)]
theorem z_any2 {P : Program} {w0 : World} {N0 : Nat} {k : List Fr} {Q : Exit → AS → Prop} {ios : List Opr} {pres : List (List Nat)} (hm : P.follows .mixedOrders = true) {y : IC} {S S1 : AS}
  (h : ∀ rd (K : AS → Prop), (∀ S', Sub0 w0 N0 S' S1 → K S') → AnyF P w0 N0 rd ios pres ios.length [] S K) (go : Zm P w0 N0 none y S1 k Q) : Zm P w0 N0 none (.region ios (some pres)) S (.seq y :: k) Q :=
 z_any hm fun rd => h rd _ fun _ hs => (za7 (z_sub (md := none) hs go)).ok
section
variable {n nx ck : Nat} {mk : List (Nat × Nat)} {l : List (Nat × AV)} {hp : List (Nat × Nat × AObj)}
theorem g_mks {sz bytes : Nat} {z : List AV} {a c : Arg} {lv cv : Int} {kd kc : IntKind} (ha : zb0 a l = some (.int kd lv)) (hc : zb0 c l = some (.int kc cv)) (hb : 0 ≤ lv ∧ lv ≤ cv ∧ cv ≤ 1048576 ∧ bytes ≤ 16777216) :
  iop (st n l hp nx ck mk) (.mkslice sz bytes z a c) = some (.ms nx ck sz 0 lv.toNat (some cv.toNat), st n l ((nx, ck, .cells (ze3 cv.toNat z)) :: hp) (nx + 1) (ck + 1) mk) := by
 simp only [iop, zar, ha, hc, if_pos hb]
 rfl
end
def zq1 (K : Nat) : List Int := List.replicate K 0
theorem zer_repl (K : Nat) : ze3 K [AV.int .i64 0] = (zq1 K).map (AV.int .i64) := by
 unfold zq1
 induction K with
 | zero => rfl
 | succ m ih =>
  show [AV.int .i64 0] ++ ze3 m [AV.int .i64 0] = _
  rw [ih]
  rfl
theorem zer_flat (K : Nat) : (zq1 K).map (AV.int .i64) = ((zq1 K).map fun z => ([.int .i64 z] : List AV)).flatten := by
 unfold zq1
 induction K with
 | zero => rfl
 | succ m ih =>
  rw [List.replicate_succ, y16, y16, y1p, ← ih]
  rfl
theorem zvf {K i : Nat} (h : i < K) : ((zq1 K).map fun z => ([.int .i64 z] : List AV))[((i : Nat) : Int).toNat]? = some [.int .i64 0] := by
 unfold zq1
 rw [y0y, y0a, List.getElem?_replicate, if_pos h]
 rfl
def b51_4 : IC := .seq (.region [oM 34 (.bin .lss (.t 33) (.t 32))] none)
 (.seq (.cond (.t 34) (.skip)
 (.exit 4))
 (.seq (.block 5 (.seq (.region [oT 35 33,
  oM 36 (.idxs 1 (.t 31) (.t 33)),
  oN 37 36,
  oT 9 35,
  oT 10 37] none)
 (.seq (.region [oT 38 10,
  oM 39 (.bin .neq (.t 38) (.c (.int .i64 (-1099511627776)))),
  oT 40 39,
  ⟨(some 41), .mov (.t 4), some (40, true)⟩,
  ⟨(some 42), .mov (.t 7), some (40, true)⟩,
  ⟨(some 43), .idxs 1 (.t 41) (.t 42), some (40, true)⟩,
  ⟨(some 44), .load none (.t 43), some (40, true)⟩,
  ⟨(some 45), .mov (.t 10), some (40, true)⟩,
  ⟨(some 46), .bin .add (.t 44) (.t 45), some (40, true)⟩,
  ⟨(some 47), .mov (.t 4), some (40, true)⟩,
  ⟨(some 48), .mov (.t 9), some (40, true)⟩,
  ⟨(some 49), .idxs 1 (.t 47) (.t 48), some (40, true)⟩,
  ⟨(some 50), .load none (.t 49), some (40, true)⟩,
  ⟨(some 51), .bin .lss (.t 46) (.t 50), some (40, true)⟩,
  oM 52 (.pick (.t 40) (.t 51) (.c (.bool false)))] (some [[], [0], [1], [2], [2], [3, 4, 2], [5, 2], [2], [6, 7, 2], [2], [2], [9, 10, 2], [11, 2], [8, 12, 2], [2, 13]]))
 (.cond (.t 52) (.region [oT 53 4,
  oT 54 9,
  oT 55 5,
  oT 56 9,
  oT 57 4,
  oT 58 7,
  oM 59 (.idxs 1 (.t 57) (.t 58)),
  oN 60 59,
  oT 61 10,
  oM 62 (.bin .add (.t 60) (.t 61)),
  oT 63 7,
  oT 64 9,
  oM 65 (.idxs 1 (.t 53) (.t 54)),
  ⟨none, .store 1 (.t 65) (.t 62), none⟩,
  oM 66 (.idxs 1 (.t 55) (.t 56)),
  ⟨none, .store 1 (.t 66) (.t 63), none⟩,
  oT 6 64] none)
 (.skip)))))
 (.region [oM 67 (.bin .add (.t 33) (.c (.int .i64 1))),
  oT 33 67] none)))
def b51_2 : IC := .seq (.region [oM 27 (.bin .lss (.t 26) (.t 25))] none)
 (.seq (.cond (.t 27) (.skip)
 (.exit 2))
 (.seq (.block 3 (.seq (.region [oT 28 26,
  oM 29 (.idxs 1 (.t 24) (.t 26)),
  oN 30 29,
  oT 7 28,
  oT 8 30] none)
 (.seq (.region [oT 31 8,
  oM 32 (.len false (.t 31)),
  oM 33 (.mov (.c (.int .i64 0)))] none)
 (.block 4 (.loop b51_4)))))
 (.region [oM 68 (.bin .add (.t 26) (.c (.int .i64 1))),
  oT 26 68] none)))
def b51_0 : IC := .seq (.region [oM 22 (.bin .lss (.t 21) (.t 20))] none)
 (.seq (.cond (.t 22) (.skip)
 (.exit 0))
 (.seq (.block 1 (.seq (.region [oM 6 (.mov (.c (.int .i64 (-1))))] none)
 (.seq (.seq (.region [oF 23 1 1,
  oN 24 23,
  oM 25 (.len false (.t 24)),
  oM 26 (.mov (.c (.int .i64 0)))] none)
 (.block 2 (.loop b51_2)))
 (.seq (.region [oT 69 6,
  oM 70 (.bin .lss (.t 69) (.c (.int .i64 0)))] none)
 (.cond (.t 70) (.seq (.region [oM 2 (.mov (.c (.nils)))] none)
 (.ret))
 (.skip))))))
 (.region [oM 71 (.bin .add (.t 21) (.c (.int .i64 1))),
  oT 21 71] none)))
def b51_6 : IC := .seq (.region [oM 74 (.bin .lss (.t 73) (.t 72))] none)
 (.seq (.cond (.t 74) (.skip)
 (.exit 6))
 (.seq (.block 7 (.region [oT 75 5,
  oT 76 6,
  oM 77 (.idxs 1 (.t 75) (.t 76)),
  oN 78 77,
  oT 6 78] none))
 (.region [oM 79 (.bin .add (.t 73) (.c (.int .i64 1))),
  oT 73 79] none)))
def b51_8 : IC := .seq (.seq (.region [oT 86 12,
  oT 87 6,
  oM 88 (.bin .neq (.t 86) (.t 87))] none)
 (.cond (.t 88) (.skip)
 (.exit 8)))
 (.seq (.block 9 (.region [oT 93 11,
  oT 94 12,
  oM 95 (.bslice 1 1 [.int .i64 0] [(0, 1, (.t 94))]),
  oM 96 (.append 1 8 [.int .i64 0] (.t 93) (.t 95)),
  oT 11 96] none))
 (.region [oT 89 5,
  oT 90 12,
  oM 91 (.idxs 1 (.t 89) (.t 90)),
  oN 92 91,
  oT 12 92] none))
-- pneumatic/bounds.negative
def ic51 : IC := .seq (.region [oM 1 (.box (.t 0)),
  oM 2 (.mov (.c (.nils)))] none)
 (.seq (.region [oF 13 0 1,
  oN 14 13,
  oM 15 (.bin .add (.t 14) (.c (.int .i64 1))),
  oT 3 15] none)
 (.seq (.region [oT 16 3,
  oM 17 (.mkslice 1 8 [.int .i64 0] (.t 16) (.t 16)),
  oT 18 3,
  oM 19 (.mkslice 1 8 [.int .i64 0] (.t 18) (.t 18)),
  oT 4 17,
  oT 5 19] (some [[], [0, 0], [], [2, 2], [1, 0, 1], [3, 4, 0, 1, 2, 3, 4]]))
 (.seq (.region [oM 6 (.mov (.c (.int .i64 (-1))))] none)
 (.seq (.seq (.region [oT 20 3,
  oM 21 (.mov (.c (.int .i64 0)))] none)
 (.block 0 (.loop b51_0)))
 (.seq (.seq (.region [oT 72 3,
  oM 73 (.mov (.c (.int .i64 0)))] none)
 (.block 6 (.loop b51_6)))
 (.seq (.region [oT 80 6,
  oM 81 (.bslice 1 1 [.int .i64 0] [(0, 1, (.t 80))]),
  oT 11 81] none)
 (.seq (.seq (.region [oT 82 5,
  oT 83 6,
  oM 84 (.idxs 1 (.t 82) (.t 83)),
  oN 85 84,
  oT 12 85] none)
 (.block 8 (.loop b51_8)))
 (.seq (.region [oT 97 11,
  oM 98 (.call (.c (.fn 70 [] [])) [(.t 97)])] none)
 (.seq (.region [oT 99 11,
  oT 2 99] none)
 (.ret))))))))))
theorem fn51 : env0.fn 51 = some ⟨100, ic51, [.t 2]⟩ := by kernel_rfl
def lN (D : Nat → Nat → Int) (n : Nat) : List (Nat × AV) := [(1, .vptr [.int .i64 (n : Nat), cM (zc7 D (n + 1))]), (3, .int .i64 ((n + 1 : Nat) : Int)), (4, vsI (zq1 (n + 1))), (5, vsI (zq1 (n + 1)))]
set_option maxHeartbeats 4000000 in
theorem zqm {D : Nat → Nat → Int} {n : Nat} (hn : n ≤ 12) (hD : OkB D (n + 1)) : PF Try.prog 51 [cB (n : Nat) (zc7 D (n + 1))] .nil0 := by
 have hml := zej D (n + 1)
 refine zb2 env0_ok fn51 [(0, .agg [.int .i64 (n : Nat), cM (zc7 D (n + 1))])] (by show 1 ≤ 100; decide) rfl fun w0 N0 => ?_
 unfold ic51 cM
 refine zsr rfl (zdg rfl rfl (za3 rfl (onr rfl (zae rfl (zad rfl rfl (zb5 (op := .add) rfl rfl rfl (za3 rfl (onu ?_))))))))
 refine za9 ?_
 rw [zab n (by omega)]
 have hz := zer_flat (n + 1)
 have hzl : ((zq1 (n + 1)).map fun z => ([.int .i64 z] : List AV)).length = n + 1 := by
  unfold zq1
  rw [y0e, y1q]
 have hzs : ∀ x ∈ ((zq1 (n + 1)).map fun z => ([.int .i64 z] : List AV)), x.length = 1 := fun x hx => by
  obtain ⟨z, _, rfl⟩ := y0k.1 hx
  rfl
 have hrp := zer_repl (n + 1)
 refine z_any2 env0_ok.mix (S1 := st 100 (lN D n) [] 0 1) (fun rd K hK => ?_) ?_
 ·repeat' first
   | exact trivial
   | refine AnyF.succ (by decide) ?_
   | refine AllL.cons' ?_ ?_
   | refine zdd (i := 0) rfl rfl (zt4 rfl) ?_
   | refine zdd (i := 1) rfl rfl (g_mks rfl rfl ⟨by omega, by omega, by omega, by omega⟩) ?_
   | refine zdd (i := 2) rfl rfl (zt4 rfl) ?_
   | refine zdd (i := 3) rfl rfl (g_mks rfl rfl ⟨by omega, by omega, by omega, by omega⟩) ?_
   | refine zdd (i := 4) rfl rfl (zt4 rfl) ?_
   | refine zdd (i := 5) rfl rfl (zt4 rfl) ?_
   | refine AnyF.fin (by decide) (hK _ ?_)
  all_goals
   rw [y0y, hrp]
   refine zgd [] [(0, 0, [.int .i64 (n : Nat), cM (zc7 D (n + 1))]), (1, 1, (zq1 (n + 1)).map (AV.int .i64)), (2, 2, (zq1 (n + 1)).map (AV.int .i64))] rfl rfl rfl (.cons rfl rfl (.cons rfl (zby _) (.cons rfl (zby _) .nil))) .nil
    (.cons rfl (.fptr rfl rfl) (.cons rfl (.same rfl) (.cons rfl (.fms0 rfl hzl hzs hz) (.cons rfl (.fms0 rfl hzl hzs hz) .nil))))
 unfold lN
 repeat (first | refine za9 ?_ | refine za1 rfl ?_ | refine za8 ?_ | refine za7 ?_ | refine zah ?_ | refine za3 rfl ?_)
 refine zbn (fun mm S => mm = n + 1 ∧ S = st 100 ((21, .int .i64 0) :: (20, .int .i64 ((n + 1 : Nat) : Int)) :: lN D n) [] 0 1) (n + 1)
  (zaa (.cons rfl (.cons rfl (.cons rfl (.cons rfl (.cons rfl (.cons rfl .nil))))))) ⟨rfl, rfl⟩ ?_
 rintro mm S ⟨rfl, rfl⟩
 unfold b51_0 lN cM
 refine zsr rfl ?_
 refine zao rfl rfl rfl (fun h0 => ?_) fun h0 => ?_
 ·repeat (first | refine za9 ?_ | refine za1 rfl ?_ | refine za8 ?_ | refine za7 ?_ | refine zah ?_ | refine zaf ?_ | refine zd8 rfl ?_ | refine za3 rfl ?_ | refine zad rfl rfl ?_ | refine zal rfl rfl rfl ?_ | refine zcr rfl rfl ?_)
  rw [hml]
  refine zbn (fun mm S => ∃ i, mm = n + 1 - i ∧ i ≤ n + 1 ∧ S = st 100 ((6, .int .i64 (-1)) :: (24, cM (zc7 D (n + 1))) :: (25, .int .i64 ((n + 1 : Nat) : Int)) :: (26, .int .i64 (i : Nat)) :: lN D n) [] 0 1) (n + 1)
   (zaa (.cons rfl (.cons rfl (.cons rfl (.cons rfl (.cons rfl (.cons rfl (.cons rfl (.cons rfl .nil))))))))) ⟨0, rfl, y19 _, rfl⟩ ?_
  rintro mm S ⟨i, rfl, hi, rfl⟩
  unfold b51_2 lN cM
  refine zsr rfl ?_
  refine zao rfl rfl rfl (fun h1 => ?_) fun h1 => ?_
  ·have hlt : i < n + 1 := by have := of_decide_eq_true h1; omega
   have hge := zex (D := D) hlt
   have hrl := zdy D (n + 1) i
   repeat (first | refine za9 ?_ | refine za1 rfl ?_ | refine za8 ?_ | refine za7 ?_ | refine zah ?_ | refine zaf ?_ | refine zd8 rfl ?_ | refine za3 rfl ?_ | refine zad rfl rfl ?_ | refine zcr rfl rfl ?_ | refine zba rfl rfl (by omega) (by assumption) rfl ?_)
   rw [hrl]
   refine zbn (fun mm S => ∃ j, mm = n + 1 - j ∧ j ≤ n + 1 ∧ S = st 100 ((6, .int .i64 (-1)) :: (24, cM (zc7 D (n + 1))) :: (25, .int .i64 ((n + 1 : Nat) : Int)) :: (26, .int .i64 (i : Nat)) :: (7, .int .i64 (i : Nat)) :: (31, vsI (zd2 D (n + 1) i)) :: (32, .int .i64 ((n + 1 : Nat) : Int)) :: (33, .int .i64 (j : Nat)) :: lN D n) [] 0 1) (n + 1)
    (zaa (.cons rfl (.cons rfl (.cons rfl (.cons rfl (.cons rfl (.cons rfl (.cons rfl (.cons rfl (.cons rfl (.cons rfl (.cons rfl (.cons rfl .nil))))))))))))) ⟨0, rfl, y19 _, rfl⟩ ?_
   rintro mm S ⟨j, rfl, hj, rfl⟩
   unfold b51_4 lN cM
   refine zsr rfl ?_
   refine zao rfl rfl rfl (fun h2 => ?_) fun h2 => ?_
   ·have hlt2 : j < n + 1 := by have := of_decide_eq_true h2; omega
    have hgj := ziw (D := D) (i := i) hlt2
    have hgi0 := zvf hlt
    have hgj0 := zvf hlt2
    have hrg := hD.rng i j hlt hlt2
    generalize D i j = x at *
    refine onu (za9 (zd8 rfl (zaf (za7 (za9 (zah (zsr rfl (za3 rfl (zba rfl rfl (by omega) (by assumption) rfl (zad rfl rfl (za3 rfl ?_)))))))))))
    refine za3 rfl (onu (za9 (zgg env0_ok rfl rfl rfl (za3 rfl ?_))))
    refine zao rfl rfl rfl (fun h3 => ?_) fun h3 => ?_
    ·have hx : x ≠ nnB := by unfold nnB; simpa using h3
     have hx0 : 0 ≤ x ∧ x ≤ 64000000 := hrg.resolve_left hx
     repeat (first | refine zd1 rfl ?_ | refine za3 rfl ?_ | refine zad rfl rfl ?_ | refine zb5 (op := .add) rfl rfl rfl ?_ | refine zba rfl rfl (by omega) (by assumption) rfl ?_)
     rw [zgt _ (by omega) (by omega)]
     refine zao rfl rfl rfl (fun h4 => ?_) fun h4 => ?_
     ·have := of_decide_eq_true h4
      omega
     refine zb3 rfl rfl (onu (zc3 rfl (zaf (zbm (za7 (za1 rfl (zb5 (op := .add) rfl rfl rfl (za3 rfl (za8 ?_)))))))))
     rw [zab j (by omega)]
     exact zat (show n + 1 - (j + 1) < n + 1 - j by omega) (zaa (.cons rfl (.cons rfl (.cons rfl (.cons rfl (.cons rfl (.cons rfl (.cons rfl (.cons rfl (.cons rfl (.cons rfl (.cons rfl (.cons rfl .nil))))))))))))) ⟨j + 1, rfl, hlt2, rfl⟩
    ·repeat (first | refine za1 rfl ?_ | refine za8 ?_ | refine za7 ?_ | refine zbm ?_ | refine zaf ?_ | refine zc3 rfl ?_ | refine zfd rfl rfl ?_ | refine za3 rfl ?_ | refine zaq rfl rfl ?_ | refine zb5 (op := .add) rfl rfl rfl ?_)
     rw [zab j (by omega)]
     exact zat (show n + 1 - (j + 1) < n + 1 - j by omega) (zaa (.cons rfl (.cons rfl (.cons rfl (.cons rfl (.cons rfl (.cons rfl (.cons rfl (.cons rfl (.cons rfl (.cons rfl (.cons rfl (.cons rfl .nil))))))))))))) ⟨j + 1, rfl, hlt2, rfl⟩
   ·refine onu (za9 (zc3 rfl (zbw (zak ?_))))
    refine zdb ?_
    refine zbu (zbm (za7 (za1 rfl (zb5 (op := .add) rfl rfl rfl (za3 rfl (za8 ?_))))))
    rw [zab i (by omega)]
    exact zat (show n + 1 - (i + 1) < n + 1 - i by omega) (zaa (.cons rfl (.cons rfl (.cons rfl (.cons rfl (.cons rfl (.cons rfl (.cons rfl (.cons rfl .nil))))))))) ⟨i + 1, rfl, hlt, rfl⟩
  ·refine onu (za9 (zc3 rfl (zbw (zak ?_))))
   refine zdb ?_
   refine zbu (za7 ?_)
   refine za9 ?_
   refine za1 rfl (za3 rfl (zb5 (op := .lss) rfl rfl rfl (onu (zd8 rfl (zsr rfl (o_movn noEsc (za8 ?_)))))))
   refine za7 (zaz (zc6 (zav ?_)))
   refine zv6 ?_
   refine zc6 (zav ?_)
   exact zam ⟨.inr rfl, _, rfl, rfl⟩
 ·have := of_decide_eq_false h0
  omega
def freeB (i j : Nat) : Int := if i = j then 0 else nnB
def rows8 : List (List AV × AV) := (List.range 9).map fun n => ([.int .i64 (n : Nat)], cB (n : Nat) (zc7 freeB (n + 1)))
def tab8 : Tab := [(8, rows8)]
theorem tab8_ok : TabOk Try.prog tab8 := TabOk.of_run (env0_ok.tab TabOk.nil (pure := [])) (n := 60) (by kernel_rfl)
theorem free8 {n : Nat} (h : n ≤ 8) : PF Try.prog 8 [.int .i64 (n : Nat)] (cB (n : Nat) (zc7 freeB (n + 1))) :=
 tab8_ok _ (y06 ..) ([.int .i64 (n : Nat)], _) (y0k.2 ⟨n, y0j.2 (by omega), rfl⟩)
def KpH (B H : HS) : Prop := B.next ≤ H.next ∧ ∀ j, j < B.next → Am.look j H.heap = Am.look j B.heap
theorem KpH.refl (B : HS) : KpH B B := ⟨y0c _, fun _ _ => rfl⟩
theorem KpH.trans {A B C : HS} (h : KpH A B) (k : KpH B C) : KpH A C := ⟨y0v h.1 k.1, fun j hj => (k.2 j (y1f hj h.1)).trans (h.2 j hj)⟩
def sqC (k : Nat) (G : Nat → Nat → Int) : List AV := .int .i64 (k : Nat) :: (List.range 169).map fun p => .int .i64 (G (p / 13) (p % 13))
def upG (G : Nat → Nat → Int) (i j : Nat) (v : Int) : Nat → Nat → Int := fun a b => if a = i ∧ b = j then v else G a b
theorem zmt (k : Nat) (G : Nat → Nat → Int) : (sqC k G).length = 170 := by
 unfold sqC
 rw [y0q, y0e, y12]
theorem zms (k : Nat) (G : Nat → Nat → Int) {i j : Nat} (hi : i < 13) (hj : j < 13) : (sqC k G)[0 + 1 + ((i : Nat) : Int).toNat * 13 + ((j : Nat) : Int).toNat * 1]? = some (.int .i64 (G i j)) := by
 unfold sqC
 rw [y0y, y0y, show 0 + 1 + i * 13 + j * 1 = (i * 13 + j) + 1 by omega, y2b, y0a, y1a (by omega)]
 show some (AV.int .i64 (G ((i * 13 + j) / 13) ((i * 13 + j) % 13))) = _
 rw [show (i * 13 + j) / 13 = i by omega, show (i * 13 + j) % 13 = j by omega]
theorem zuy (k : Nat) (G : Nat → Nat → Int) {i j : Nat} (hi : i < 13) (hj : j < 13) (v : Int) : (sqC k G).set (0 + 1 + ((i : Nat) : Int).toNat * 13 + ((j : Nat) : Int).toNat * 1) (.int .i64 v) = sqC k (upG G i j v) := by
 unfold sqC
 rw [y0y, y0y, show 0 + 1 + i * 13 + j * 1 = (i * 13 + j) + 1 by omega, List.set_cons_succ]
 congr 1
 refine List.ext_getElem (by simp) fun p h1 h2 => ?_
 rw [List.getElem_set, List.getElem_map, List.getElem_map, List.getElem_range]
 unfold upG
 by_cases e : i * 13 + j = p
 ·subst e
  rw [if_pos rfl, if_pos ⟨by omega, by omega⟩]
 ·rw [if_neg e, if_neg (by omega)]
def b54_2 : IC := .seq (.region [oM 18 (.bin .lss (.t 17) (.t 16))] none)
 (.seq (.cond (.t 18) (.skip)
 (.exit 2))
 (.seq (.block 3 (.seq (.region [oT 19 17,
  oT 5 19] none)
 (.region [oT 20 1,
  oT 21 4,
  oT 22 5,
  oM 23 (.call (.t 20) [(.t 21), (.t 22)])] none)))
 (.region [oM 24 (.bin .add (.t 17) (.c (.int .i64 1))),
  oT 17 24] none)))
def b54_0 : IC := .seq (.region [oM 11 (.bin .lss (.t 10) (.t 9))] none)
 (.seq (.cond (.t 11) (.skip)
 (.exit 0))
 (.seq (.block 1 (.seq (.region [oT 12 10,
  oT 4 12] none)
 (.seq (.region [oT 13 0,
  oM 14 (.nilchk (.t 13)),
  oF 15 0 14,
  oN 16 15,
  oM 17 (.mov (.c (.int .i64 0)))] none)
 (.block 2 (.loop b54_2)))))
 (.region [oM 25 (.bin .add (.t 10) (.c (.int .i64 1))),
  oT 10 25] none)))
-- (*pneumatic/bounds.square).each
def ic54 : IC := .seq (.region [oT 6 0,
  oM 7 (.nilchk (.t 6)),
  oF 8 0 7,
  oN 9 8,
  oM 10 (.mov (.c (.int .i64 0)))] none)
 (.block 0 (.loop b54_0))
theorem fn54 : env0.fn 54 = some ⟨26, ic54, []⟩ := by kernel_rfl
set_option maxHeartbeats 2000000 in
theorem each54 {w0 : World} {N0 : Nat} {fv : AV} {k id sp : Nat} (hk : k ≤ 13) (Iv : Nat → Nat → HS → Prop) (hl : ∀ i j H, Iv i j H → (∃ cs, Am.look id H.heap = some (sp, .cells (.int .i64 (k : Nat) :: cs))) ∧ id < H.next)
  (hy : ∀ i j H, i < k → j < k → Iv i j H → CT Try.prog w0 N0 fv [.int .i64 (i : Nat), .int .i64 (j : Nat)] H fun _ H' => Iv i (j + 1) H') (hr : ∀ i H, i < k → Iv i k H → Iv (i + 1) 0 H) (H : HS) (h0 : Iv 0 0 H) :
  FT Try.prog w0 N0 54 [.mptr id sp 0, fv] H fun _ H' => Iv k 0 H' := by
 obtain ⟨⟨cs, hlk⟩, hid⟩ := hl 0 0 H h0
 refine zdj env0_ok fn54 [(0, .mptr id sp 0), (1, fv)] (by show 2 ≤ 26; decide) rfl ?_
 unfold ic54
 refine zsr rfl (za3 rfl (zfe rfl (zae rfl ?_)))
 refine zbp rfl hlk hid rfl ?_
 refine za3 rfl (onu (zah ?_))
 refine zbn (fun mm S => ∃ i H', mm = k - i ∧ i ≤ k ∧ Iv i 0 H' ∧ S = st 26 [(0, .mptr id sp 0), (1, fv), (9, .int .i64 (k : Nat)), (10, .int .i64 (i : Nat))] H'.heap H'.next H'.clk) k
  (zaa (.cons rfl (.cons rfl (.cons rfl (.cons rfl .nil))))) ⟨0, H, rfl, y19 _, h0, rfl⟩ ?_
 clear hlk hid h0
 rintro mm S ⟨i, H', rfl, hi, hI, rfl⟩
 obtain ⟨⟨cs, hlk⟩, hid⟩ := hl i 0 H' hI
 unfold b54_0
 refine zsr rfl ?_
 refine zao rfl rfl rfl (fun h1 => ?_) fun h1 => ?_
 ·have hlt : i < k := y18.1 (of_decide_eq_true h1)
  refine onu (za9 (zd8 rfl (zaf (za7 (za9 (zah (zsr rfl (za3 rfl (za3 rfl (onu ?_))))))))))
  refine zsr rfl (za3 rfl (zfe rfl (zae rfl ?_)))
  refine zbp rfl hlk hid rfl ?_
  refine za3 rfl (onu (zah ?_))
  refine zbn (fun mm S => ∃ j H', mm = k - j ∧ j ≤ k ∧ Iv i j H' ∧ S = st 26 [(0, .mptr id sp 0), (1, fv), (9, .int .i64 (k : Nat)), (10, .int .i64 (i : Nat)), (4, .int .i64 (i : Nat)), (16, .int .i64 (k : Nat)), (17, .int .i64 (j : Nat))] H'.heap H'.next H'.clk) k
   (zaa (.cons rfl (.cons rfl (.cons rfl (.cons rfl (.cons rfl (.cons rfl (.cons rfl .nil)))))))) ⟨0, H', rfl, y19 _, hI, rfl⟩ ?_
  clear hI hlk hid
  rintro mm S ⟨j, H', rfl, hj, hI, rfl⟩
  unfold b54_2
  refine zsr rfl ?_
  refine zao rfl rfl rfl (fun h2 => ?_) fun h2 => ?_
  ·have hlt2 : j < k := y18.1 (of_decide_eq_true h2)
   repeat (first | refine za9 ?_ | refine za1 rfl ?_ | refine za8 ?_ | refine za7 ?_ | refine zah ?_ | refine zaf ?_ | refine zd8 rfl ?_ | refine za3 rfl ?_)
   refine zp8 _ rfl rfl (hy i j H' hlt hlt2 hI) (fun _ _ _ _ hm => absurd hm y0f) fun v H2 hF => ?_
   refine za8 (zbm (za7 (za1 rfl (zb5 (op := .add) rfl rfl rfl (za3 rfl (za8 ?_))))))
   rw [zab j (by omega)]
   exact zat (show k - (j + 1) < k - j by omega) (zaa (.cons rfl (.cons rfl (.cons rfl (.cons rfl (.cons rfl (.cons rfl (.cons rfl .nil)))))))) ⟨j + 1, H2, rfl, hlt2, hF, rfl⟩
  ·obtain rfl : j = k := by have := of_decide_eq_false h2; omega
   refine onu (za9 (zc3 rfl (zbw (zak ?_))))
   refine zdb ?_
   refine zbu (zbm (za7 (za1 rfl (zb5 (op := .add) rfl rfl rfl (za3 rfl (za8 ?_))))))
   rw [zab i (by omega)]
   exact zat (show j - (i + 1) < j - i by omega) (zaa (.cons rfl (.cons rfl (.cons rfl (.cons rfl .nil))))) ⟨i + 1, H', rfl, hlt, hr i H' hlt hI, rfl⟩
 ·obtain rfl : i = k := by have := of_decide_eq_false h1; omega
  refine onu (za9 (zc3 rfl (zbw (zak ?_))))
  refine zdb ?_
  refine zbu ?_
  exact zam ⟨.inl rfl, _, rfl, hI⟩
set_option maxHeartbeats 2000000 in
theorem zsl {w0 : World} {N0 : Nat} {fv : AV} {k : Nat} {G : Nat → Nat → Int} (hk : k ≤ 13) (Iv : Nat → Nat → HS → Prop)
  (hy : ∀ i j H, i < k → j < k → Iv i j H → CT Try.prog w0 N0 fv [.int .i64 (i : Nat), .int .i64 (j : Nat)] H fun _ H' => Iv i (j + 1) H') (hr : ∀ i H, i < k → Iv i k H → Iv (i + 1) 0 H) (H : HS) (h0 : Iv 0 0 H) :
  FT Try.prog w0 N0 54 [.vptr (sqC k G), fv] H fun _ H' => Iv k 0 H' := by
 refine zdj env0_ok fn54 [(0, .vptr (sqC k G)), (1, fv)] (by show 2 ≤ 26; decide) rfl ?_
 unfold ic54
 refine zsr rfl (za3 rfl (zme rfl (zal rfl rfl rfl (zad rfl rfl (za3 rfl (onu (zah ?_)))))))
 refine zbn (fun mm S => ∃ i H', mm = k - i ∧ i ≤ k ∧ Iv i 0 H' ∧ S = st 26 [(0, .vptr (sqC k G)), (1, fv), (9, .int .i64 (k : Nat)), (10, .int .i64 (i : Nat))] H'.heap H'.next H'.clk) k
  (zaa (.cons rfl (.cons rfl (.cons rfl (.cons rfl .nil))))) ⟨0, H, rfl, y19 _, h0, rfl⟩ ?_
 clear h0
 rintro mm S ⟨i, H', rfl, hi, hI, rfl⟩
 unfold b54_0
 refine zsr rfl ?_
 refine zao rfl rfl rfl (fun h1 => ?_) fun h1 => ?_
 ·have hlt : i < k := y18.1 (of_decide_eq_true h1)
  repeat (first | refine za9 ?_ | refine za1 rfl ?_ | refine za8 ?_ | refine za7 ?_ | refine zah ?_ | refine zaf ?_ | refine zd8 rfl ?_ | refine za3 rfl ?_ | refine zad rfl rfl ?_ | refine zal rfl rfl rfl ?_ | refine zme rfl ?_)
  refine zbn (fun mm S => ∃ j H', mm = k - j ∧ j ≤ k ∧ Iv i j H' ∧ S = st 26 [(0, .vptr (sqC k G)), (1, fv), (9, .int .i64 (k : Nat)), (10, .int .i64 (i : Nat)), (4, .int .i64 (i : Nat)), (16, .int .i64 (k : Nat)), (17, .int .i64 (j : Nat))] H'.heap H'.next H'.clk) k
   (zaa (.cons rfl (.cons rfl (.cons rfl (.cons rfl (.cons rfl (.cons rfl (.cons rfl .nil)))))))) ⟨0, H', rfl, y19 _, hI, rfl⟩ ?_
  clear hI
  rintro mm S ⟨j, H', rfl, hj, hI, rfl⟩
  unfold b54_2
  refine zsr rfl ?_
  refine zao rfl rfl rfl (fun h2 => ?_) fun h2 => ?_
  ·have hlt2 : j < k := y18.1 (of_decide_eq_true h2)
   repeat (first | refine za9 ?_ | refine za1 rfl ?_ | refine za8 ?_ | refine za7 ?_ | refine zah ?_ | refine zaf ?_ | refine zd8 rfl ?_ | refine za3 rfl ?_)
   refine zp8 _ rfl rfl (hy i j H' hlt hlt2 hI) (fun _ _ _ _ hm => absurd hm y0f) fun v H2 hF => ?_
   refine za8 (zbm (za7 (za1 rfl (zb5 (op := .add) rfl rfl rfl (za3 rfl (za8 ?_))))))
   rw [zab j (by omega)]
   exact zat (show k - (j + 1) < k - j by omega) (zaa (.cons rfl (.cons rfl (.cons rfl (.cons rfl (.cons rfl (.cons rfl (.cons rfl .nil)))))))) ⟨j + 1, H2, rfl, hlt2, hF, rfl⟩
  ·obtain rfl : j = k := by have := of_decide_eq_false h2; omega
   refine onu (za9 (zc3 rfl (zbw (zak ?_))))
   refine zdb ?_
   refine zbu (zbm (za7 (za1 rfl (zb5 (op := .add) rfl rfl rfl (za3 rfl (za8 ?_))))))
   rw [zab i (by omega)]
   exact zat (show j - (i + 1) < j - i by omega) (zaa (.cons rfl (.cons rfl (.cons rfl (.cons rfl .nil))))) ⟨i + 1, H', rfl, hlt, hr i H' hlt hI, rfl⟩
 ·obtain rfl : i = k := by have := of_decide_eq_false h1; omega
  refine onu (za9 (zc3 rfl (zbw (zak ?_))))
  refine zdb ?_
  refine zbu ?_
  exact zam ⟨.inl rfl, _, rfl, hI⟩
-- pneumatic/bounds.of$1
def ic71 : IC := .region [oN 6 3,
  oT 7 0,
  oT 8 1,
  oF 9 1 2,
  oN 10 9,
  oT 11 0,
  oM 12 (.idxs 1 (.t 10) (.t 11)),
  oN 13 12,
  oT 14 1,
  oM 15 (.idxs 1 (.t 13) (.t 14)),
  oN 16 15,
  oM 17 (.nilchk (.t 6)),
  oF 18 1 17,
  oM 19 (.idxarr 13 13 (.t 18) (.t 7)),
  oM 20 (.idxarr 13 1 (.t 19) (.t 8)),
  ⟨none, .store 1 (.t 20) (.t 16), none⟩] (some [[], [], [], [], [3], [], [4, 5], [6], [], [7, 8], [9], [0], [11], [12, 1], [13, 2, 0, 1, 2, 3, 4, 5, 6, 7, 8, 9, 10], [14, 10, 0, 1, 2, 3, 4, 5, 6, 7, 8, 9, 10]])
theorem fn71 : env0.fn 71 = some ⟨21, ic71, []⟩ := by kernel_rfl
-- pneumatic/bounds.of
def ic52 : IC := .seq (.region [oM 1 (.box (.t 0)),
  oM 2 (.mov (.c (.nilp)))] none)
 (.seq (.region [oF 4 0 1,
  oN 5 4,
  oM 6 (.bin .add (.t 5) (.c (.int .i64 1))),
  oM 7 (.build (List.replicate 170 (.int .i64 0)) [(0, 1, (.t 6))]),
  oM 8 (.box (.t 7)),
  oM 3 (.alloc [.nilp]),
  ⟨none, .store 1 (.t 3) (.t 8), none⟩] none)
 (.seq (.region [oN 9 3,
  oM 10 (.mkfn 71 [] [(.t 1), (.t 3)]),
  oM 11 (.call (.c (.fn 54 [] [])) [(.t 9), (.t 10)])] none)
 (.seq (.region [oN 12 3,
  oT 2 12] none)
 (.ret))))
theorem fn52 : env0.fn 52 = some ⟨13, ic52, [.t 2]⟩ := by kernel_rfl
def ofG (D : Nat → Nat → Int) (K i j : Nat) : Nat → Nat → Int := fun a b => if (a < i ∧ b < K) ∨ (a = i ∧ b < j) then D a b else 0
theorem of_step (D : Nat → Nat → Int) (K i j : Nat) (hj : j < K) : upG (ofG D K i j) i j (D i j) = ofG D K i (j + 1) := by
 funext a b
 unfold upG ofG
 by_cases h : a = i ∧ b = j
 ·obtain ⟨rfl, rfl⟩ := h
  rw [if_pos ⟨rfl, rfl⟩, if_pos (.inr ⟨rfl, by omega⟩)]
 ·rw [if_neg h]
  by_cases c : (a < i ∧ b < K) ∨ (a = i ∧ b < j)
  ·rw [if_pos c, if_pos (by omega)]
  ·rw [if_neg c, if_neg (by omega)]
theorem of_row (D : Nat → Nat → Int) (K i : Nat) : ofG D K i K = ofG D K (i + 1) 0 := by
 funext a b
 unfold ofG
 by_cases c : (a < i ∧ b < K) ∨ (a = i ∧ b < K)
 ·rw [if_pos c, if_pos (by omega)]
 ·rw [if_neg c, if_neg (by omega)]
structure OfI (B : HS) (s1 s2 s3 n : Nat) (D : Nat → Nat → Int) (i j : Nat) (H : HS) : Prop where
 kp : KpH B H
 hb : Am.look B.next H.heap = some (s1, .cells [.int .i64 (n : Nat), cM (zc7 D (n + 1))])
 hs : Am.look (B.next + 1) H.heap = some (s2, .cells (sqC (n + 1) (ofG D (n + 1) i j)))
 hc : Am.look (B.next + 2) H.heap = some (s3, .cells [.mptr (B.next + 1) s2 0])
 nx : B.next + 3 ≤ H.next
set_option maxHeartbeats 2000000 in
theorem fill71 {w0 : World} {N0 : Nat} {B : HS} {s1 s2 s3 n : Nat} {D : Nat → Nat → Int} (hn : n ≤ 12) (i j : Nat) (H : HS) (hi : i < n + 1) (hj : j < n + 1) (hI : OfI B s1 s2 s3 n D i j H) :
  FT Try.prog w0 N0 71 [.int .i64 (i : Nat), .int .i64 (j : Nat), .mptr B.next s1 0, .mptr (B.next + 2) s3 0] H fun _ H' => OfI B s1 s2 s3 n D i (j + 1) H' := by
 have hnx := hI.nx
 have hge := zex (D := D) hi
 have hgj := ziw (D := D) (i := i) hj
 refine zdj env0_ok fn71 [(0, .int .i64 (i : Nat)), (1, .int .i64 (j : Nat)), (2, .mptr B.next s1 0), (3, .mptr (B.next + 2) s3 0)] (by show 4 ≤ 21; decide) rfl ?_
 unfold ic71
 refine zgg env0_ok rfl rfl rfl ?_
 refine zbp (sp := s3) (cs := [.mptr (B.next + 1) s2 0]) rfl hI.hc (by omega) rfl ?_
 refine za3 rfl (za3 rfl (zae rfl ?_))
 refine zbp (sp := s1) (cs := [.int .i64 (n : Nat), cM (zc7 D (n + 1))]) rfl hI.hb (by omega) rfl ?_
 unfold cM
 repeat (first | refine za3 rfl ?_ | refine zad rfl rfl ?_ | refine zae rfl ?_ | refine zba rfl rfl (by omega) (by assumption) rfl ?_ | refine zdo rfl rfl (decide_eq_true ⟨by omega, by omega⟩) ?_ | refine zfe rfl ?_)
 refine zci (id := B.next + 1) (sp := s2) (cs := sqC (n + 1) (ofG D (n + 1) i j)) rfl rfl rfl hI.hs (by rw [zmt]; omega) rfl ?_
 rw [zuy _ _ (by omega) (by omega), of_step D _ _ _ hj]
 refine za8 ?_
 refine zam ⟨.inl rfl, _, rfl, ⟨hI.kp.1, fun x hx => ?_⟩, ?_, ?_, ?_, hI.nx⟩
 ·show Am.look x (zbb (B.next + 1) _ H.heap) = _
  rw [za4, if_neg (by omega)]
  exact hI.kp.2 x hx
 ·show Am.look _ (zbb (B.next + 1) _ H.heap) = _
  rw [za4, if_neg (by omega)]
  exact hI.hb
 ·show Am.look _ (zbb (B.next + 1) _ H.heap) = _
  rw [za4, if_pos rfl]
 ·show Am.look _ (zbb (B.next + 1) _ H.heap) = _
  rw [za4, if_neg (by omega)]
  exact hI.hc
theorem of_zero (D : Nat → Nat → Int) (K : Nat) : ofG D K 0 0 = fun _ _ => 0 := by
 funext a b
 unfold ofG
 rw [if_neg (by omega)]
theorem sq_zero (k : Nat) : sqC k (fun _ _ => 0) = .int .i64 (k : Nat) :: List.replicate 169 (.int .i64 0) := by
 unfold sqC
 rw [List.map_const', y12]
set_option maxHeartbeats 2000000 in
set_option maxRecDepth 20000 in
theorem of52 {w0 : World} {N0 : Nat} {n : Nat} {D : Nat → Nat → Int} (hn : n ≤ 12) (B : HS) :
  FT Try.prog w0 N0 52 [cB (n : Nat) (zc7 D (n + 1))] B fun v H' => ∃ s, v = .mptr (B.next + 1) s 0 ∧ KpH B H' ∧ Am.look (B.next + 1) H'.heap = some (s, .cells (sqC (n + 1) (ofG D (n + 1) (n + 1) 0))) ∧ B.next + 3 ≤ H'.next := by
 refine zdj env0_ok fn52 [(0, .agg [.int .i64 (n : Nat), cM (zc7 D (n + 1))])] (by show 1 ≤ 13; decide) rfl ?_
 unfold ic52
 have he : setAt 0 (List.replicate 170 (AV.int .i64 0)) [.int .i64 ((n + 1 : Nat) : Int)] = sqC (n + 1) (ofG D (n + 1) 0 0) := by
  rw [of_zero, sq_zero]
  rfl
 refine zsr rfl (zdg rfl rfl (za3 rfl (onr rfl (zae rfl ?_))))
 refine zbp rfl zai (by omega) rfl ?_
 refine zb5 (op := .add) rfl rfl rfl ?_
 rw [zab n (by omega)]
 refine zfl rfl rfl ?_
 rw [he]
 refine zdg rfl rfl ?_
 refine zbj ?_
 refine zci (id := B.next + 1 + 1) rfl rfl rfl zai (y0o 0) rfl ?_
 rw [zhe]
 refine onr rfl ?_
 refine zbp rfl zai (by omega) rfl ?_
 refine zmd rfl rfl ?_
 have hy : ∀ i j H, i < n + 1 → j < n + 1 → OfI B B.clk (B.clk + 1) (B.clk + 1 + 1) n D i j H → CT Try.prog w0 N0 (.fn 71 [] [.mptr B.next B.clk 0, .mptr (B.next + 2) (B.clk + 1 + 1) 0]) [.int .i64 (i : Nat), .int .i64 (j : Nat)] H fun _ H' => OfI B B.clk (B.clk + 1) (B.clk + 1 + 1) n D i (j + 1) H' :=
  fun i j H hi hj hI => zfz (fill71 hn i j H hi hj hI)
 refine zp8 _ rfl rfl (zfz (each54 (by omega) (OfI B B.clk (B.clk + 1) (B.clk + 1 + 1) n D) (fun i j H hI => ⟨⟨_, hI.hs⟩, by have := hI.nx; omega⟩) hy (fun i H _ hI => ⟨hI.kp, hI.hb, by rw [← of_row]; exact hI.hs, hI.hc, hI.nx⟩) ⟨_, _, _⟩ ?_)) (fun _ _ _ _ hm => absurd hm y0f) fun v H2 hF => ?_
 ·refine ⟨⟨by show B.next ≤ B.next + 1 + 1 + 1; omega, fun x hx => ?_⟩, ?_, ?_, zai, by show B.next + 3 ≤ B.next + 1 + 1 + 1; omega⟩
  ·dsimp only
   rw [za2, if_neg (by omega), za2, if_neg (by omega), za2, if_neg (by omega)]
  ·dsimp only
   rw [za2, if_neg (by omega), za2, if_neg (by omega)]
   exact zai
  ·dsimp only
   rw [za2, if_neg (by omega)]
   exact zai
 have hnx := hF.nx
 refine onr rfl ?_
 refine zbp rfl hF.hc (by omega) rfl ?_
 refine za3 rfl (onu (zaz ?_))
 exact zam ⟨.inr rfl, _, rfl, _, rfl, hF.kp, hF.hs, hF.nx⟩
-- (*pneumatic/bounds.square).lower
def ic73 : IC := .seq (.region [oT 8 0,
  oT 9 1,
  oT 10 2,
  oM 11 (.nilchk (.t 8)),
  oF 12 1 11,
  oM 13 (.idxarr 13 13 (.t 12) (.t 9)),
  oM 14 (.idxarr 13 1 (.t 13) (.t 10)),
  oN 15 14,
  oM 16 (.bin .eql (.t 15) (.c (.int .i64 (-1099511627776)))),
  oT 17 16,
  ⟨(some 18), .mov (.t 3), some (17, false)⟩,
  ⟨(some 19), .mov (.t 0), some (17, false)⟩,
  ⟨(some 20), .mov (.t 1), some (17, false)⟩,
  ⟨(some 21), .mov (.t 2), some (17, false)⟩,
  ⟨(some 22), .nilchk (.t 19), some (17, false)⟩,
  ⟨(some 23), .faddr 1 (.t 22), some (17, false)⟩,
  ⟨(some 24), .idxarr 13 13 (.t 23) (.t 20), some (17, false)⟩,
  ⟨(some 25), .idxarr 13 1 (.t 24) (.t 21), some (17, false)⟩,
  ⟨(some 26), .load none (.t 25), some (17, false)⟩,
  ⟨(some 27), .bin .lss (.t 18) (.t 26), some (17, false)⟩,
  oM 28 (.pick (.t 17) (.c (.bool true)) (.t 27))] none)
 (.cond (.t 28) (.region [oT 29 0,
  oT 30 1,
  oT 31 2,
  oT 32 3,
  oM 33 (.nilchk (.t 29)),
  oF 34 1 33,
  oM 35 (.idxarr 13 13 (.t 34) (.t 30)),
  oM 36 (.idxarr 13 1 (.t 35) (.t 31)),
  ⟨none, .store 1 (.t 36) (.t 32), none⟩] none)
 (.skip))
theorem fn73 : env0.fn 73 = some ⟨37, ic73, []⟩ := by kernel_rfl
def lowG (G : Nat → Nat → Int) (i j : Nat) (x : Int) : Nat → Nat → Int := if G i j = nnB ∨ x < G i j then upG G i j x else G
def KpX (id : Nat) (B H : HS) : Prop := H.next = B.next ∧ ∀ j, j ≠ id → Am.look j H.heap = Am.look j B.heap
set_option maxHeartbeats 2000000 in
set_option maxRecDepth 20000 in
theorem lower73 {w0 : World} {N0 : Nat} {id sp k : Nat} {G : Nat → Nat → Int} {i j : Nat} (hi : i < 13) (hj : j < 13) (x : Int) (H : HS) (hl : Am.look id H.heap = some (sp, .cells (sqC k G))) (hid : id < H.next) :
  FT Try.prog w0 N0 73 [.mptr id sp 0, .int .i64 (i : Nat), .int .i64 (j : Nat), .int .i64 x] H fun _ H' => KpX id H H' ∧ Am.look id H'.heap = some (sp, .cells (sqC k (lowG G i j x))) := by
 have hg := zms k G hi hj
 refine zdj env0_ok fn73 [(0, .mptr id sp 0), (1, .int .i64 (i : Nat)), (2, .int .i64 (j : Nat)), (3, .int .i64 x)] (by show 4 ≤ 37; decide) rfl ?_
 unfold ic73
 repeat (first | refine za9 ?_ | refine za1 rfl ?_ | refine za3 rfl ?_ | refine zae rfl ?_ | refine zdo rfl rfl (decide_eq_true ⟨by omega, by omega⟩) ?_ | refine zfe rfl ?_)
 refine zas (id := id) (sp := sp) rfl hl hid hg ?_
 unfold lowG
 refine zao rfl rfl rfl (fun h1 => ?_) fun h1 => ?_
 ·have hx : G i j = nnB := by unfold nnB; simpa using h1
  rw [if_pos (.inl hx)]
  repeat (first | refine za1 rfl ?_ | refine za8 ?_ | refine za7 ?_ | refine zd8 rfl ?_ | refine zfd rfl rfl ?_ | refine za3 rfl ?_ | refine zae rfl ?_ | refine zb3 rfl rfl ?_ | refine zdo rfl rfl (decide_eq_true ⟨by omega, by omega⟩) ?_ | refine zfe rfl ?_)
  refine zci (id := id) (sp := sp) (cs := sqC k G) rfl rfl rfl hl (by rw [zmt]; omega) rfl ?_
  rw [zuy _ _ hi hj]
  refine za8 ?_
  refine zam ⟨.inl rfl, _, rfl, ⟨rfl, fun y hy => ?_⟩, ?_⟩
  ·show Am.look y (zbb id _ H.heap) = _
   rw [za4, if_neg (fun e => hy e.symm)]
  ·show Am.look id (zbb id _ H.heap) = _
   rw [za4, if_pos rfl]
 ·have hx : G i j ≠ nnB := by unfold nnB; simpa using h1
  repeat (first | refine zd1 rfl ?_ | refine za3 rfl ?_ | refine zae rfl ?_ | refine zdo rfl rfl (decide_eq_true ⟨by omega, by omega⟩) ?_ | refine zfe rfl ?_)
  refine zas (id := id) (sp := sp) rfl hl hid hg ?_
  refine zd1 rfl ?_
  refine zao rfl rfl rfl (fun h2 => ?_) fun h2 => ?_
  ·rw [if_pos (.inr (of_decide_eq_true h2))]
   repeat (first | refine za1 rfl ?_ | refine za8 ?_ | refine za7 ?_ | refine zd8 rfl ?_ | refine za3 rfl ?_ | refine zae rfl ?_ | refine zaq rfl rfl ?_ | refine zdo rfl rfl (decide_eq_true ⟨by omega, by omega⟩) ?_ | refine zfe rfl ?_)
   refine zci (id := id) (sp := sp) (cs := sqC k G) rfl rfl rfl hl (by rw [zmt]; omega) rfl ?_
   rw [zuy _ _ hi hj]
   refine za8 ?_
   refine zam ⟨.inl rfl, _, rfl, ⟨rfl, fun y hy => ?_⟩, ?_⟩
   ·show Am.look y (zbb id _ H.heap) = _
    rw [za4, if_neg (fun e => hy e.symm)]
   ·show Am.look id (zbb id _ H.heap) = _
    rw [za4, if_pos rfl]
  ·rw [if_neg (fun c => c.elim hx (of_decide_eq_false h2))]
   refine zaq rfl rfl (onu (zc3 rfl (zaf ?_)))
   exact zam ⟨.inl rfl, _, rfl, ⟨rfl, fun _ _ => rfl⟩, hl⟩
-- (*pneumatic/bounds.square).close$1
def ic72 : IC := .seq (.region [oN 8 2,
  oT 9 0,
  oN 10 3,
  oM 11 (.nilchk (.t 8)),
  oF 12 1 11,
  oM 13 (.idxarr 13 13 (.t 12) (.t 9)),
  oM 14 (.idxarr 13 1 (.t 13) (.t 10)),
  oN 15 14,
  oN 16 2,
  oN 17 3,
  oT 18 1,
  oM 19 (.nilchk (.t 16)),
  oF 20 1 19,
  oM 21 (.idxarr 13 13 (.t 20) (.t 17)),
  oM 22 (.idxarr 13 1 (.t 21) (.t 18)),
  oN 23 22,
  oT 6 15,
  oT 7 23] (some [[], [], [], [0], [3], [4, 1], [5, 2], [6], [], [], [], [8], [11], [12, 9], [13, 10], [14], [7, 0, 1, 2, 3, 4, 5, 6, 7], [15, 16, 0, 1, 2, 3, 4, 5, 6, 7, 8, 9, 10, 11, 12, 13, 14, 15, 16]]))
 (.seq (.region [oT 24 6,
  oM 25 (.bin .neq (.t 24) (.c (.int .i64 (-1099511627776)))),
  oT 26 25,
  ⟨(some 27), .mov (.t 7), some (26, true)⟩,
  ⟨(some 28), .bin .neq (.t 27) (.c (.int .i64 (-1099511627776))), some (26, true)⟩,
  oM 29 (.pick (.t 26) (.t 28) (.c (.bool false)))] none)
 (.cond (.t 29) (.region [oN 30 2,
  oT 31 0,
  oT 32 1,
  oT 33 6,
  oT 34 7,
  oM 35 (.bin .add (.t 33) (.t 34)),
  oM 36 (.call (.c (.fn 73 [] [])) [(.t 30), (.t 31), (.t 32), (.t 35)])] none)
 (.skip)))
theorem fn72 : env0.fn 72 = some ⟨37, ic72, []⟩ := by kernel_rfl
def clG (G : Nat → Nat → Int) (K k i j : Nat) : Nat → Nat → Int := fun a b => if (a < i ∧ b < K) ∨ (a = i ∧ b < j) then fwP k G a b else G a b
theorem cl_row (G : Nat → Nat → Int) (K k i : Nat) : clG G K k i K = clG G K k (i + 1) 0 := by
 funext a b
 unfold clG
 by_cases c : (a < i ∧ b < K) ∨ (a = i ∧ b < K)
 ·rw [if_pos c, if_pos (by omega)]
 ·rw [if_neg c, if_neg (by omega)]
theorem cl_zero (G : Nat → Nat → Int) (K k : Nat) : clG G K k 0 0 = G := by
 funext a b
 unfold clG
 rw [if_neg (by omega)]
theorem cl_step (G : Nat → Nat → Int) (K k i j : Nat) (hi : i < K) (hj : j < K) (hk : k < K) (h1 : ∀ a, a < K → fwP k G a k = G a k) (h2 : ∀ b, b < K → fwP k G k b = G k b) :
  clG G K k i j i k = G i k ∧ clG G K k i j k j = G k j ∧ clG G K k i j i j = G i j ∧ (if G i k ≠ nnB ∧ G k j ≠ nnB then lowG (clG G K k i j) i j (G i k + G k j) else clG G K k i j) = clG G K k i (j + 1) := by
 have e1 : clG G K k i j i k = G i k := by
  unfold clG
  split
  ·exact h1 i hi
  ·rfl
 have e2 : clG G K k i j k j = G k j := by
  unfold clG
  split
  ·exact h2 j hj
  ·rfl
 have e3 : clG G K k i j i j = G i j := by
  unfold clG
  rw [if_neg (by omega)]
 refine ⟨e1, e2, e3, ?_⟩
 have key : ∀ a b, ¬ (a = i ∧ b = j) → clG G K k i j a b = clG G K k i (j + 1) a b := fun a b h => by
  unfold clG
  by_cases c : (a < i ∧ b < K) ∨ (a = i ∧ b < j)
  ·rw [if_pos c, if_pos (by omega)]
  ·rw [if_neg c, if_neg (by omega)]
 have last : clG G K k i (j + 1) i j = fwP k G i j := by
  unfold clG
  rw [if_pos (.inr ⟨rfl, by omega⟩)]
 funext a b
 by_cases h : a = i ∧ b = j
 ·obtain ⟨rfl, rfl⟩ := h
  rw [last]
  unfold fwP
  by_cases c : G a k ≠ nnB ∧ G k b ≠ nnB
  ·rw [if_pos c]
   unfold lowG
   rw [e3]
   by_cases d : G a b = nnB ∨ G a k + G k b < G a b
   ·rw [if_pos d, if_pos ⟨c.1, c.2, d⟩]
    unfold upG
    rw [if_pos ⟨rfl, rfl⟩]
   ·rw [if_neg d, if_neg (fun x => d x.2.2)]
    exact e3
  ·rw [if_neg c, if_neg (fun x => c ⟨x.1, x.2.1⟩)]
   exact e3
 ·rw [← key a b h]
  split
  ·unfold lowG
   split
   ·unfold upG
    rw [if_neg h]
   ·rfl
  ·rfl
structure ClI (B : HS) (id sp b1 t1 c1 u1 K k : Nat) (G : Nat → Nat → Int) (i j : Nat) (H : HS) : Prop where
 kp : ∀ x, x < B.next → x ≠ id → Am.look x H.heap = Am.look x B.heap
 hs : Am.look id H.heap = some (sp, .cells (sqC K (clG G K k i j)))
 hb : Am.look b1 H.heap = some (t1, .cells [.mptr id sp 0])
 hc : Am.look c1 H.heap = some (u1, .cells [.int .i64 (k : Nat)])
 nx : B.next ≤ H.next ∧ id < H.next ∧ b1 < H.next ∧ c1 < H.next
set_option maxHeartbeats 2000000 in
set_option maxRecDepth 20000 in
theorem pair72 {w0 : World} {N0 : Nat} {B : HS} {id sp b1 t1 c1 u1 K k : Nat} {G : Nat → Nat → Int} (hK : K ≤ 13) (hk : k < K) (hb1 : b1 ≠ id) (hc1 : c1 ≠ id) (h1 : ∀ a, a < K → fwP k G a k = G a k) (h2 : ∀ b, b < K → fwP k G k b = G k b)
  (hr : ∀ a b, a < K → b < K → G a b = nnB ∨ (0 ≤ G a b ∧ G a b ≤ 1000000)) (i j : Nat) (H : HS) (hi : i < K) (hj : j < K) (hI : ClI B id sp b1 t1 c1 u1 K k G i j H) :
  FT Try.prog w0 N0 72 [.int .i64 (i : Nat), .int .i64 (j : Nat), .mptr b1 t1 0, .mptr c1 u1 0] H fun _ H' => ClI B id sp b1 t1 c1 u1 K k G i (j + 1) H' := by
 obtain ⟨e1, e2, e3, e4⟩ := cl_step G K k i j hi hj hk h1 h2
 have hnx := hI.nx
 have g1 := zms K (clG G K k i j) (i := i) (j := k) (by omega) (by omega)
 have g2 := zms K (clG G K k i j) (i := k) (j := j) (by omega) (by omega)
 rw [e1] at g1
 rw [e2] at g2
 have r1 := hr i k hi hk
 have r2 := hr k j hk hj
 refine zdj env0_ok fn72 [(0, .int .i64 (i : Nat)), (1, .int .i64 (j : Nat)), (2, .mptr b1 t1 0), (3, .mptr c1 u1 0)] (by show 4 ≤ 37; decide) rfl ?_
 unfold ic72
 refine za9 (zgg env0_ok rfl rfl rfl ?_)
 refine zbp rfl hI.hb (by omega) rfl ?_
 refine za3 rfl ?_
 refine zbp rfl hI.hc (by omega) rfl ?_
 repeat (first | refine zae rfl ?_ | refine zdo rfl rfl (decide_eq_true ⟨by omega, by omega⟩) ?_ | refine zfe rfl ?_)
 refine zas (id := id) (sp := sp) rfl hI.hs (by omega) g1 ?_
 refine zbp rfl hI.hb (by omega) rfl ?_
 refine zbp rfl hI.hc (by omega) rfl ?_
 repeat (first | refine za3 rfl ?_ | refine zae rfl ?_ | refine zdo rfl rfl (decide_eq_true ⟨by omega, by omega⟩) ?_ | refine zfe rfl ?_)
 refine zas (id := id) (sp := sp) rfl hI.hs (by omega) g2 ?_
 refine za3 rfl (za3 rfl (onr rfl (za3 rfl ?_)))
 refine zao rfl rfl rfl (fun h5 => ?_) fun h5 => ?_
 ·have hx : G i k ≠ nnB := by unfold nnB; simpa using h5
  refine za3 rfl (zd1 rfl (za3 rfl (zd1 rfl ?_)))
  refine zao rfl rfl rfl (fun h6 => ?_) fun h6 => ?_
  ·have hy : G k j ≠ nnB := by unfold nnB; simpa using h6
   rw [if_pos ⟨hx, hy⟩] at e4
   have r1 := r1.resolve_left hx
   have r2 := r2.resolve_left hy
   refine zb3 rfl rfl (onu (zd8 rfl (za1 rfl ?_)))
   refine zbp rfl hI.hb (by omega) rfl ?_
   repeat (first | refine za3 rfl ?_ | refine zb5 (op := .add) rfl rfl rfl ?_)
   rw [zgt _ (by omega) (by omega)]
   refine zp8 _ rfl rfl (zfz (lower73 (k := K) (show i < 13 by omega) (show j < 13 by omega) (G i k + G k j) ⟨_, _, _⟩ hI.hs hnx.2.1)) (fun _ _ _ _ hm => absurd hm y0f) fun v H2 hF => ?_
   obtain ⟨⟨n1, n2⟩, n3⟩ := hF
   have n1 : H2.next = H.next := n1
   refine za8 ?_
   exact zam ⟨.inl rfl, _, rfl, ⟨fun x hx1 hx2 => (n2 x hx2).trans (hI.kp x hx1 hx2), by rw [← e4]; exact n3, (n2 b1 hb1).trans hI.hb, (n2 c1 hc1).trans hI.hc, by show B.next ≤ H2.next ∧ id < H2.next ∧ b1 < H2.next ∧ c1 < H2.next; rw [n1]; exact hnx⟩⟩
  ·have hy : G k j = nnB := by unfold nnB; simpa using h6
   rw [if_neg (fun c => c.2 hy)] at e4
   refine zb3 rfl rfl (onu (zc3 rfl (zaf ?_)))
   exact zam ⟨.inl rfl, _, rfl, ⟨hI.kp, by rw [← e4]; exact hI.hs, hI.hb, hI.hc, hnx⟩⟩
 ·have hx : G i k = nnB := by unfold nnB; simpa using h5
  rw [if_neg (fun c => c.1 hx)] at e4
  refine za3 rfl (zfd rfl rfl (zfd rfl rfl (zaq rfl rfl (onu (zc3 rfl (zaf ?_))))))
  exact zam ⟨.inl rfl, _, rfl, ⟨hI.kp, by rw [← e4]; exact hI.hs, hI.hb, hI.hc, hnx⟩⟩
def b53_0 : IC := .seq (.region [oM 8 (.bin .lss (.t 7) (.t 6))] none)
 (.seq (.cond (.t 8) (.skip)
 (.exit 0))
 (.seq (.block 1 (.seq (.region [oT 9 7,
  oM 2 (.alloc [.int .i64 0]),
  ⟨none, .store 1 (.t 2) (.t 9), none⟩] none)
 (.region [oN 10 1,
  oM 11 (.mkfn 72 [] [(.t 1), (.t 2)]),
  oM 12 (.call (.c (.fn 54 [] [])) [(.t 10), (.t 11)])] none)))
 (.region [oM 13 (.bin .add (.t 7) (.c (.int .i64 1))),
  oT 7 13] none)))
-- (*pneumatic/bounds.square).close
def ic53 : IC := .seq (.region [oM 1 (.box (.t 0))] none)
 (.seq (.region [oN 3 1,
  oM 4 (.nilchk (.t 3)),
  oF 5 0 4,
  oN 6 5,
  oM 7 (.mov (.c (.int .i64 0)))] none)
 (.block 0 (.loop b53_0)))
theorem fn53 : env0.fn 53 = some ⟨14, ic53, []⟩ := by kernel_rfl
structure PvO (K : Nat) (Gs : Nat → Nat → Nat → Int) : Prop where
 row : ∀ k b, k < K → b < K → fwP k (Gs k) k b = Gs k k b
 col : ∀ k a, k < K → a < K → fwP k (Gs k) a k = Gs k a k
 rng : ∀ k a b, k < K → a < K → b < K → Gs k a b = nnB ∨ (0 ≤ Gs k a b ∧ Gs k a b ≤ 1000000)
 nxt : ∀ k, k < K → clG (Gs k) K k K 0 = Gs (k + 1)
set_option maxHeartbeats 2000000 in
set_option maxRecDepth 20000 in
theorem close53 {w0 : World} {N0 : Nat} {id sp K : Nat} {Gs : Nat → Nat → Nat → Int} (hK : K ≤ 13) (hp : PvO K Gs) (B : HS) (hl : Am.look id B.heap = some (sp, .cells (sqC K (Gs 0)))) (hid : id < B.next) :
  FT Try.prog w0 N0 53 [.mptr id sp 0] B fun _ H' => (∀ x, x < B.next → x ≠ id → Am.look x H'.heap = Am.look x B.heap) ∧ Am.look id H'.heap = some (sp, .cells (sqC K (Gs K))) ∧ B.next ≤ H'.next := by
 refine zdj env0_ok fn53 [(0, .mptr id sp 0)] (by show 1 ≤ 14; decide) rfl ?_
 unfold ic53
 refine zsr rfl (zdg rfl rfl (onr rfl ?_))
 refine zbp rfl zai (by omega) rfl ?_
 refine zfe rfl (zae rfl ?_)
 refine zbp (id := id) (sp := sp) (cs := sqC K (Gs 0)) rfl (by rw [za2, if_neg (by omega)]; exact hl) (by omega) rfl ?_
 refine za3 rfl (onu (zah ?_))
 refine zbn (fun mm S => ∃ (k : Nat) (H' : HS), mm = K - k ∧ k ≤ K ∧ (∀ x, x < B.next → x ≠ id → Am.look x H'.heap = Am.look x B.heap) ∧ Am.look id H'.heap = some (sp, .cells (sqC K (Gs k))) ∧ Am.look B.next H'.heap = some (B.clk, .cells [.mptr id sp 0]) ∧ B.next < H'.next ∧
   S = st 14 [(1, .mptr B.next B.clk 0), (6, .int .i64 (K : Nat)), (7, .int .i64 (k : Nat))] H'.heap H'.next H'.clk) K
  (zaa (.cons rfl (.cons rfl (.cons rfl .nil)))) ⟨0, ⟨_, _, _⟩, rfl, y19 _, fun x hx1 hx2 => ?_, ?_, ?_, ?_, rfl⟩ ?_
 ·dsimp only
  rw [za2, if_neg (by omega)]
 ·dsimp only
  rw [za2, if_neg (by omega)]
  exact hl
 ·exact zai
 ·exact y0o _
 rintro mm S ⟨k, H', rfl, hk, kp, hs, hb, hnx, rfl⟩
 unfold b53_0
 refine zsr rfl ?_
 refine zao rfl rfl rfl (fun h1 => ?_) fun h1 => ?_
 ·have hlt : k < K := y18.1 (of_decide_eq_true h1)
  refine onu (za9 (zd8 rfl (zaf (za7 (za9 (zah (zsr rfl (za3 rfl (zbj ?_)))))))))
  refine zci (id := H'.next) rfl rfl rfl zai (y0o 0) rfl ?_
  rw [zhe]
  refine onR rfl ?_
  refine zbp (sp := B.clk) (cs := [.mptr id sp 0]) rfl (by rw [za2, if_neg (by omega)]; exact hb) (by omega) rfl ?_
  refine zmd rfl rfl ?_
  have hy : ∀ i j H, i < K → j < K → ClI H' id sp B.next B.clk H'.next H'.clk K k (Gs k) i j H → CT Try.prog w0 N0 (.fn 72 [] [.mptr B.next B.clk 0, .mptr H'.next H'.clk 0]) [.int .i64 (i : Nat), .int .i64 (j : Nat)] H fun _ H2 => ClI H' id sp B.next B.clk H'.next H'.clk K k (Gs k) i (j + 1) H2 :=
   fun i j H hi hj hI => zfz (pair72 hK hlt (by omega) (by omega) (fun a ha => hp.col k a hlt ha) (fun b hb => hp.row k b hlt hb) (fun a b ha hb => hp.rng k a b hlt ha hb) i j H hi hj hI)
  refine zp8 _ rfl rfl (zfz (each54 hK (ClI H' id sp B.next B.clk H'.next H'.clk K k (Gs k)) (fun i j H hI => ⟨⟨_, hI.hs⟩, hI.nx.2.1⟩) hy (fun i H _ hI => ⟨hI.kp, by rw [← cl_row]; exact hI.hs, hI.hb, hI.hc, hI.nx⟩) ⟨_, _, _⟩ ⟨fun x hx _ => ?_, ?_, ?_, ?_, ?_⟩)) (fun _ _ _ _ hm => absurd hm y0f) fun v H2 hF => ?_
  ·dsimp only
   rw [za2, if_neg (by omega)]
  ·dsimp only
   rw [za2, if_neg (by omega), cl_zero]
   exact hs
  ·dsimp only
   rw [za2, if_neg (by omega)]
   exact hb
  ·exact zai
  ·show H'.next ≤ H'.next + 1 ∧ id < H'.next + 1 ∧ B.next < H'.next + 1 ∧ H'.next < H'.next + 1
   omega
  have hn2 := hF.nx
  refine za8 (zbm (za7 (za1 rfl (zb5 (op := .add) rfl rfl rfl (za3 rfl (za8 ?_))))))
  rw [zab k (by omega)]
  exact zat (show K - (k + 1) < K - k by omega) (zaa (.cons rfl (.cons rfl (.cons rfl .nil)))) ⟨k + 1, H2, rfl, hlt, fun x hx1 hx2 => (hF.kp x (by omega) hx2).trans (kp x hx1 hx2), by rw [← hp.nxt k hlt]; exact hF.hs, hF.hb, by omega, rfl⟩
 ·obtain rfl : k = K := by have := of_decide_eq_false h1; omega
  refine onu (za9 (zc3 rfl (zbw (zak ?_))))
  refine zdb ?_
  refine zbu ?_
  exact zam ⟨.inl rfl, _, rfl, kp, hs, Nat.le_of_lt hnx⟩
theorem zj1 {i : Nat} {D : List Nat} (hi : i ∉ D) : ∀ l : List Nat, l.Nodup → i ∈ l → (l.filter fun j => !D.contains j).length = (l.filter fun j => !(i :: D).contains j).length + 1
 | [], _, h => by cases h
 | j :: l, hn, h => by
  obtain ⟨h1, h2⟩ := y2q.1 hn
  rw [y1h, y1h]
  by_cases e : j = i
  ·subst e
   have e1 : (!D.contains j) = true := by simpa using hi
   have e2 : (!(j :: D).contains j) = false := by simp
   rw [if_pos e1, if_neg (by rw [e2]; exact y2o), y0q]
   congr 2
   refine List.filter_congr fun x hx => ?_
   have hx2 : x ≠ j := fun e => h1 (e ▸ hx)
   simp [hx2]
  ·have hm : i ∈ l := (y0i.1 h).resolve_left fun e2 => e e2.symm
   have ih := zj1 hi l h2 hm
   have e3 : (!(i :: D).contains j) = (!D.contains j) := by simp [e]
   rw [e3]
   split
   ·rw [y0q, y0q, ih]
   ·exact ih
theorem zr6 {p : Nat → Prop} : ∀ {l : List Nat}, (∀ i ∈ l, p i) → AllL p l
 | [], _ => trivial
 | i :: _, h => ⟨h i (y06 ..), zr6 fun j hj => h j (y04 _ hj)⟩
theorem zqr {pres : List (List Nat)} {N : Nat} {D : List Nat} (hp : ∀ i < N, ∀ p ∈ pres.getD i [], p < i) (h : zdc pres N D = []) : ∀ i < N, i ∈ D := by
 intro i
 induction i using Nat.strongRecOn with
 | ind i ih =>
  intro hi
  refine Classical.byContradiction fun hni => ?_
  have : i ∈ zdc pres N D := by
   unfold zdc
   rw [y0t]
   refine ⟨y0j.2 hi, ?_⟩
   rw [y0g, y0b]
   refine ⟨by simpa using hni, fun p hpp => ?_⟩
   have := hp i hi p hpp
   exact y0w.2 (ih p this (by omega))
  rw [h] at this
  cases this
theorem zrl {P : Program} {w0 : World} {N0 : Nat} {rd : Option (Nat × Nat)} {ios : List Opr} {pres : List (List Nat)} {K : AS → Prop} (hp : ∀ i < ios.length, ∀ p ∈ pres.getD i [], p < i) (I : List Nat → AS → Prop)
  (step : ∀ n D S i, I D S → i < ios.length → i ∉ D → (∀ p ∈ pres.getD i [], p ∈ D) → (∀ S', I (i :: D) S' → AnyF P w0 N0 rd ios pres n (i :: D) S' K) → StF P w0 N0 rd ios pres n D S K i)
  (fin : ∀ D S, I D S → (∀ i < ios.length, i ∈ D) → K S) : ∀ (n : Nat) (D : List Nat) (S : AS), I D S → ((List.range ios.length).filter fun i => !D.contains i).length = n → AnyF P w0 N0 rd ios pres n D S K
 | 0, D, S, hI, hn => by
  have h0 := y1r.1 hn
  rw [List.filter_eq_nil_iff] at h0
  have hall : ∀ i < ios.length, i ∈ D := fun i hi => by
   have := h0 i (y0j.2 hi)
   simpa using this
  refine ⟨?_, fin D S hI hall⟩
  unfold zdc
  rw [List.filter_eq_nil_iff]
  intro i hi
  have := y0w.2 (hall i (y0j.1 hi))
  rw [this]
  simp
 | n + 1, D, S, hI, hn => by
  refine AnyF.succ (fun h => ?_) (zr6 fun i hi => ?_)
  ·have hall := zqr hp h
   rw [List.filter_eq_nil_iff.2 fun i hi => by
    have := y0w.2 (hall i (y0j.1 hi))
    rw [this]
    simp] at hn
   cases hn
  ·unfold zdc at hi
   rw [y0t, y0g, y0b] at hi
   obtain ⟨h1, h2, h3⟩ := hi
   have h2 : i ∉ D := by simpa using h2
   refine step n D S i hI (y0j.1 h1) h2 (fun p hp => y0w.1 (h3 p hp)) fun S' hI' => zrl hp I step fin n (i :: D) S' hI' ?_
   have := zj1 h2 (List.range ios.length) List.nodup_range h1
   omega
theorem zty (d : Nat) (v : AV) (l : List (Nat × AV)) : zck d ((d, v) :: l) = some v := by
 rw [zck, y23]
theorem zjj {d t : Nat} (h : d ≠ t) (v : AV) (l : List (Nat × AV)) : zck t ((d, v) :: l) = zck t l := by
 rw [zck]
 cases hb : Nat.beq d t with
 | true => exact absurd (y0m hb) h
 | false => rfl
def Lk (base : List (Nat × AV)) (dv : Nat → Option (Nat × AV)) (D : List Nat) (l : List (Nat × AV)) : Prop :=
 (∀ t v, (t, v) ∈ base → zck t l = some v) ∧ ∀ j d v, dv j = some (d, v) → j ∈ D → zck d l = some v
theorem Lk.add {base : List (Nat × AV)} {dv dv' : Nat → Option (Nat × AV)} {D : List Nat} {l : List (Nat × AV)} {i d : Nat} {v : AV} (h : Lk base dv D l) (hi : dv' i = some (d, v)) (hb : ∀ t v, (t, v) ∈ base → d ≠ t) (hs : ∀ j, j ∈ D → j ≠ i → dv' j = dv j) (hd : ∀ j e w, j ≠ i → dv' j = some (e, w) → d ≠ e) (hni : i ∉ D) :
  Lk base dv' (i :: D) ((d, v) :: l) := by
 refine ⟨fun t w ht => by rw [zjj (hb t w ht)]; exact h.1 t w ht, fun j e w hj hm => ?_⟩
 by_cases hji : j = i
 ·subst hji
  rw [hi] at hj
  injection hj with hj
  injection hj with h1 h2
  subst h1 h2
  exact zty ..
 ·rw [zjj (hd j e w hji hj)]
  have hm2 : j ∈ D := (y0i.1 hm).resolve_left hji
  exact h.2 j e w (by rw [← hs j hm2 hji]; exact hj) hm2
def zpf : List Opr := [oN 4 1, oM 5 (.nilchk (.t 4)), oF 6 0 5, oN 7 6, oM 8 (.bin .sub (.t 7) (.c (.int .i64 1))), oN 9 1, oM 10 (.nilchk (.t 9)), oF 11 0 10, oN 12 11, oM 13 (.mkslice 1 24 [.nils] (.t 12) (.t 12)), oM 14 (.build [.int .i64 0, .nils] [(0, 1, (.t 8)), (1, 1, (.t 13))]), oM 3 (.alloc [.int .i64 0, .nils]), ⟨none, .store 2 (.t 3) (.t 14), none⟩]
def reg56p : List (List Nat) := [[], [0], [1], [2], [3], [], [5], [6], [7], [8, 8], [4, 9], [], [11, 10, 0, 1, 2, 3, 4, 5, 6, 7, 8, 9, 10, 11]]
structure N56 where
 i9 : Nat
 s9 : Nat
 iA : Nat
 sA : Nat
def dv56 (K : Nat) (sq : List AV) (q : N56) : Nat → Option (Nat × AV)
 | 0 => some (4, .vptr sq)
 | 1 => some (5, .vptr sq)
 | 2 => some (6, .vptr sq)
 | 3 => some (7, .int .i64 (K : Nat))
 | 4 => some (8, .int .i64 ((K : Nat) - 1))
 | 5 => some (9, .vptr sq)
 | 6 => some (10, .vptr sq)
 | 7 => some (11, .vptr sq)
 | 8 => some (12, .int .i64 (K : Nat))
 | 9 => some (13, .ms q.i9 q.s9 1 0 K (some K))
 | 10 => some (14, .agg [.int .i64 ((K : Nat) - 1), .ms q.i9 q.s9 1 0 K (some K)])
 | 11 => some (3, .mptr q.iA q.sA 0)
 | _ => none
def zsg : Nat → Nat
 | 11 => 3
 | j => 4 + j
theorem dv56_dst {K : Nat} {sq : List AV} {q : N56} : ∀ {j e : Nat} {v : AV}, dv56 K sq q j = some (e, v) → e = zsg j ∧ j < 12
 | 0, _, _, h | 1, _, _, h | 2, _, _, h | 3, _, _, h | 4, _, _, h | 5, _, _, h | 6, _, _, h | 7, _, _, h | 8, _, _, h | 9, _, _, h | 10, _, _, h | 11, _, _, h => by
  injection h with h
  injection h with h1 h2
  exact ⟨h1.symm, by decide⟩
 | j + 12, _, _, h => by cases h
theorem dd56_ne {i j : Nat} (hi : i < 12) (hj : j < 12) (h : j ≠ i) : zsg i ≠ zsg j := by
 have : ∀ a < 12, ∀ b < 12, b ≠ a → zsg a ≠ zsg b := by decide
 exact this i hi j hj h
structure M56 (K : Nat) (D : List Nat) (hp : List (Nat × Nat × AObj)) (nx : Nat) (q : N56) : Prop where
 h0 : Am.look 0 hp = some (0, .cells [.int .i64 0, .nils])
 l0 : 0 < nx
 h9 : 9 ∈ D → Am.look q.i9 hp = some (q.s9, .cells (ze3 K [.nils]))
 l9 : 9 ∈ D → 0 < q.i9 ∧ q.i9 < nx
 hA : 11 ∈ D → Am.look q.iA hp = some (q.sA, .cells (if D.contains 12 then [.int .i64 ((K : Nat) - 1), .ms q.i9 q.s9 1 0 K (some K)] else [.int .i64 0, .nils]))
 lA : 11 ∈ D → 0 < q.iA ∧ q.iA < nx
 ne : 9 ∈ D → 11 ∈ D → q.i9 ≠ q.iA
 c12 : 12 ∈ D → 11 ∈ D ∧ 9 ∈ D
 c10 : 10 ∈ D → 9 ∈ D
def zfc (sq : List AV) : List (Nat × AV) := [(1, .vptr [.vptr sq]), (2, .mptr 0 0 0)]
def Inv56 (K : Nat) (sq : List AV) (D : List Nat) (S : AS) : Prop :=
 ∃ l hp nx ck q, S = st 19 l hp nx ck ∧ Lk (zfc sq) (dv56 K sq q) D l ∧ M56 K D hp nx q
theorem zrt {sq : List AV} {j : Nat} (hj : j < 12) : ∀ t v, (t, v) ∈ zfc sq → zsg j ≠ t := fun t v h => by
 unfold zfc at h
 simp only [y0i, y05, y0f, or_false] at h
 have : ∀ k < 12, 3 ≤ zsg k := by decide
 have := this j hj
 omega
theorem M56.keep {K : Nat} {D : List Nat} {hp : List (Nat × Nat × AObj)} {nx j : Nat} {q : N56} (h : M56 K D hp nx q) (n9 : j ≠ 9) (nA : j ≠ 11) (n12 : j ≠ 12) (n10 : j = 10 → 9 ∈ D) : M56 K (j :: D) hp nx q := by
 have e : ∀ k, j ≠ k → k ∈ j :: D → k ∈ D := fun k hk hm => (y0i.1 hm).resolve_left fun e => hk e.symm
 have c : ∀ k, j ≠ k → (j :: D).contains k = D.contains k := fun k hk => by rw [y28, show (k == j) = false from beq_eq_false_iff_ne.2 fun e => hk e.symm, Bool.false_or]
 exact ⟨h.h0, h.l0, fun a => h.h9 (e 9 n9 a), fun a => h.l9 (e 9 n9 a), fun a => by rw [c 12 n12]; exact h.hA (e 11 nA a), fun a => h.lA (e 11 nA a), fun a b => h.ne (e 9 n9 a) (e 11 nA b), fun a => ⟨y04 _ (h.c12 (e 12 n12 a)).1, y04 _ (h.c12 (e 12 n12 a)).2⟩, fun a => y04 _ ((y0i.1 a).elim (fun x => n10 x.symm) fun x => h.c10 x)⟩
theorem g_binX {n nx ck : Nat} {mk : List (Nat × Nat)} {l : List (Nat × AV)} {hp : List (Nat × Nat × AObj)} {op : BinOp} {a b : Arg} {x y r : AV} (ha : zb0 a l = some x) (hb : zb0 b l = some y) (h : Am.binOp op x y = some r) : iop (st n l hp nx ck mk) (.bin op a b) = some (r, st n l hp nx ck mk) := by
 simp only [iop, zar, ha, hb, h]
 rfl
set_option maxHeartbeats 1000000 in
theorem step56 {w0 : World} {N0 : Nat} {rd : Option (Nat × Nat)} {Kq : AS → Prop} {K : Nat} {sq rest : List AV} (hsq : sq = .int .i64 (K : Nat) :: rest) (hK : K ≤ 13)
  (r : Nat) (D : List Nat) (S : AS) (j : Nat) (hI : Inv56 K sq D S) (hj : j < 13) (hni : j ∉ D) (hpre : ∀ p ∈ reg56p.getD j [], p ∈ D)
  (go : ∀ S', Inv56 K sq (j :: D) S' → AnyF Try.prog w0 N0 rd zpf reg56p r (j :: D) S' Kq) : StF Try.prog w0 N0 rd zpf reg56p r D S Kq j := by
 obtain ⟨l, hp, nx, ck, q, rfl, hL, hP⟩ := hI
 have b1 : zck 1 l = some (.vptr [.vptr sq]) := hL.1 _ _ (by unfold zfc; simp)
 have pr : ∀ k d v, dv56 K sq q k = some (d, v) → k ∈ D → zck d l = some v := hL.2
 have ad : ∀ {i : Nat} {v : AV} {q' : N56}, i < 12 → i ∉ D → dv56 K sq q' i = some (zsg i, v) → (∀ k, k ∈ D → k ≠ i → dv56 K sq q' k = dv56 K sq q k) → Lk (zfc sq) (dv56 K sq q') (i :: D) ((zsg i, v) :: l) := fun hi hn hv hs => hL.add hv (zrt hi) hs (fun k e v hk he => by
  obtain ⟨e1, e2⟩ := dv56_dst he
  rw [e1]
  exact dd56_ne hi e2 hk) hn
 have w1 : IntKind.wrap .i64 (((K : Nat) : Int) - 1) = ((K : Nat) : Int) - 1 := zgt _ (by omega) (by omega)
 have fin : ∀ {i : Nat} {v : AV}, i < 12 → i ∉ D → i ≠ 9 → i ≠ 11 → (i = 10 → 9 ∈ D) → dv56 K sq q i = some (zsg i, v) → Inv56 K sq (i :: D) (st 19 ((zsg i, v) :: l) hp nx ck) := fun hi hn n9 nA n10 hv => ⟨_, _, _, _, q, rfl, ad hi hn hv (fun _ _ _ => rfl), hP.keep n9 nA (by omega) n10⟩
 match j, hj, hni, hpre, go with
 | 0, _, hni, hpre, go => exact zdd (i := 0) rfl rfl (zjf b1 rfl) (go _ (fin (i := 0) (by decide) hni (by decide) (by decide) (fun e => absurd e (by decide)) rfl))
 | 1, _, hni, hpre, go => exact zdd (i := 1) rfl rfl (zt5 (pr 0 4 _ rfl (hpre 0 (by decide)))) (go _ (fin (i := 1) (by decide) hni (by decide) (by decide) (fun e => absurd e (by decide)) rfl))
 | 2, _, hni, hpre, go => exact zdd (i := 2) rfl rfl (zke (pr 1 5 _ rfl (hpre 1 (by decide))) rfl rfl) (go _ (fin (i := 2) (by decide) hni (by decide) (by decide) (fun e => absurd e (by decide)) rfl))
 | 3, _, hni, hpre, go => exact zdd (i := 3) rfl rfl (zjf (pr 2 6 _ rfl (hpre 2 (by decide))) (by rw [hsq]; rfl)) (go _ (fin (i := 3) (by decide) hni (by decide) (by decide) (fun e => absurd e (by decide)) rfl))
 | 4, _, hni, hpre, go => exact zdd (i := 4) rfl rfl (g_binX (op := .sub) (pr 3 7 _ rfl (hpre 3 (by decide))) rfl (by show some (AV.int .i64 (IntKind.wrap .i64 (((K : Nat) : Int) - 1))) = _; rw [w1])) (go _ (fin (i := 4) (by decide) hni (by decide) (by decide) (fun e => absurd e (by decide)) rfl))
 | 5, _, hni, hpre, go => exact zdd (i := 5) rfl rfl (zjf b1 rfl) (go _ (fin (i := 5) (by decide) hni (by decide) (by decide) (fun e => absurd e (by decide)) rfl))
 | 6, _, hni, hpre, go => exact zdd (i := 6) rfl rfl (zt5 (pr 5 9 _ rfl (hpre 5 (by decide)))) (go _ (fin (i := 6) (by decide) hni (by decide) (by decide) (fun e => absurd e (by decide)) rfl))
 | 7, _, hni, hpre, go => exact zdd (i := 7) rfl rfl (zke (pr 6 10 _ rfl (hpre 6 (by decide))) rfl rfl) (go _ (fin (i := 7) (by decide) hni (by decide) (by decide) (fun e => absurd e (by decide)) rfl))
 | 8, _, hni, hpre, go => exact zdd (i := 8) rfl rfl (zjf (pr 7 11 _ rfl (hpre 7 (by decide))) (by rw [hsq]; rfl)) (go _ (fin (i := 8) (by decide) hni (by decide) (by decide) (fun e => absurd e (by decide)) rfl))
 | 10, _, hni, hpre, go => exact zdd (i := 10) rfl rfl (zsz (pl := [(0, .int .i64 ((K : Nat) - 1)), (1, .ms q.i9 q.s9 1 0 K (some K))]) (by simp only [zg8, zb0, pr 4 8 _ rfl (hpre 4 (by decide)), pr 9 13 _ rfl (hpre 9 (by decide))]; rfl) rfl) (go _ (fin (i := 10) (by decide) hni (by decide) (by decide) (fun _ => hpre 9 (by decide)) rfl))
 | 9, _, hni, hpre, go =>
  have h12 := pr 8 12 _ rfl (hpre 8 (by decide))
  have n12 : 12 ∉ D := fun h => hni (hP.c12 h).2
  refine zdd (i := 9) rfl rfl (g_mks h12 h12 ⟨by omega, by omega, by omega, by omega⟩) (go _ ⟨_, _, _, _, { q with i9 := nx, s9 := ck }, rfl, ad (i := 9) (by decide) hni rfl (fun k hk hkj => by
   match k, hkj with
   | 0, _ | 1, _ | 2, _ | 3, _ | 4, _ | 5, _ | 6, _ | 7, _ | 8, _ | 11, _ => rfl
   | 9, h => exact absurd rfl h
   | 10, _ => exact absurd (hP.c10 hk) hni
   | k + 12, _ => rfl), ?_⟩)
  have e : ∀ k, 9 ≠ k → k ∈ 9 :: D → k ∈ D := fun k hk hm => (y0i.1 hm).resolve_left fun e => hk e.symm
  have c : ∀ k, 9 ≠ k → (9 :: D).contains k = D.contains k := fun k hk => by rw [y28, show (k == 9) = false from beq_eq_false_iff_ne.2 fun e => hk e.symm, Bool.false_or]
  have c12 : D.contains 12 = false := by simpa using n12
  have l0 := hP.l0
  refine ⟨by rw [za2, if_neg (by omega)]; exact hP.h0, by omega, fun _ => zai, fun _ => ⟨l0, y0o _⟩, fun a => ?_, fun a => ?_, fun _ b => ?_, fun a => absurd (e 12 (by decide) a) n12, fun _ => y06 ..⟩
  ·have := hP.lA (e 11 (by decide) a)
   have h := hP.hA (e 11 (by decide) a)
   rw [c12] at h
   rw [c 12 (by decide), c12, za2, if_neg (by show ¬ nx = q.iA; omega)]
   exact h
  ·have := hP.lA (e 11 (by decide) a)
   show 0 < q.iA ∧ q.iA < nx + 1
   omega
  ·have := hP.lA (e 11 (by decide) b)
   show nx ≠ q.iA
   omega
 | 11, _, hni, hpre, go =>
  have n12 : 12 ∉ D := fun h => hni (hP.c12 h).1
  refine zdd (i := 11) rfl rfl zsy (go _ ⟨_, _, _, _, { q with iA := nx, sA := ck }, rfl, ad (i := 11) (by decide) hni rfl (fun k hk hkj => by
   match k, hkj with
   | 0, _ | 1, _ | 2, _ | 3, _ | 4, _ | 5, _ | 6, _ | 7, _ | 8, _ | 9, _ | 10, _ => rfl
   | 11, h => exact absurd rfl h
   | k + 12, _ => rfl), ?_⟩)
  have e : ∀ k, 11 ≠ k → k ∈ 11 :: D → k ∈ D := fun k hk hm => (y0i.1 hm).resolve_left fun e => hk e.symm
  have c : ∀ k, 11 ≠ k → (11 :: D).contains k = D.contains k := fun k hk => by rw [y28, show (k == 11) = false from beq_eq_false_iff_ne.2 fun e => hk e.symm, Bool.false_or]
  have c12 : D.contains 12 = false := by simpa using n12
  have l0 := hP.l0
  refine ⟨by rw [za2, if_neg (by omega)]; exact hP.h0, by omega, fun a => ?_, fun a => ?_, fun _ => by rw [c 12 (by decide), c12]; exact zai, fun _ => ⟨l0, y0o _⟩, fun a _ => ?_, fun a => absurd (e 12 (by decide) a) n12, fun a => y04 _ (hP.c10 (e 10 (by decide) a))⟩
  ·have := hP.l9 (e 9 (by decide) a)
   rw [za2, if_neg (by show ¬ nx = q.i9; omega)]
   exact hP.h9 (e 9 (by decide) a)
  ·have := hP.l9 (e 9 (by decide) a)
   show 0 < q.i9 ∧ q.i9 < nx + 1
   omega
  ·have := hP.l9 (e 9 (by decide) a)
   show q.i9 ≠ nx
   omega
 | 12, _, hni, hpre, go =>
  have h3 := pr 11 3 _ rfl (hpre 11 (by decide))
  have h14 := pr 10 14 _ rfl (hpre 10 (by decide))
  have m9 : 9 ∈ D := hpre 9 (by decide)
  have mA : 11 ∈ D := hpre 11 (by decide)
  have c12 : D.contains 12 = false := by simpa using hni
  have hk := hP.hA mA
  rw [c12, if_neg y2o] at hk
  have l9 := hP.l9 m9
  have lA := hP.lA mA
  have hne := hP.ne m9 mA
  refine zgv (i := 12) rfl (zeh (id := q.iA) (sp := q.sA) (off := 0) (vs := [.int .i64 ((K : Nat) - 1), .ms q.i9 q.s9 1 0 K (some K)]) h3 h14 rfl rfl hk rfl rfl) (go _ ⟨_, _, _, _, q, rfl, ⟨hL.1, fun k d v hk hm => ?_⟩, ?_⟩)
  ·rcases y0i.1 hm with rfl | hm
   ·cases hk
   ·exact hL.2 k d v hk hm
  ·have c : ∀ k, 12 ≠ k → (12 :: D).contains k = D.contains k := fun k hk => by rw [y28, show (k == 12) = false from beq_eq_false_iff_ne.2 fun e => hk e.symm, Bool.false_or]
   refine ⟨by rw [za4, if_neg (by omega)]; exact hP.h0, hP.l0, fun _ => by rw [za4, if_neg (fun e => hne e.symm)]; exact hP.h9 m9, fun _ => l9, fun _ => ?_, fun _ => lA, fun _ _ => hne, fun _ => ⟨y04 _ mA, y04 _ m9⟩, fun _ => y04 _ m9⟩
   rw [za4, if_pos rfl, y28, show ((12 : Nat) == 12) = true from rfl, Bool.true_or, if_pos rfl]
   rfl
 | j + 13, hj, _, _, _ => exact absurd hj (by omega)
theorem zum (K : Nat) : hasM.hasML (ze3 K [AV.nils]) = false := by
 induction K with
 | zero => rfl
 | succ m ih =>
  show hasM.hasML ([AV.nils] ++ ze3 m [AV.nils]) = false
  exact ih
theorem rows56 {w0 : World} {N0 : Nat} {k : List Fr} {Q : Exit → AS → Prop} {y : IC} {K : Nat} {sq rest : List AV} (hsq : sq = .int .i64 (K : Nat) :: rest) (hK : K ≤ 13)
  (fin : Zm Try.prog w0 N0 none y (st 19 [(1, .vptr [.vptr sq]), (2, .mptr 1 0 0), (3, .mptr 2 0 0)] [(0, 0, .cells (ze3 K [.nils])), (1, 0, .cells [.int .i64 0, .nils]), (2, 0, .cells [.int .i64 ((K : Nat) - 1), .ms 0 0 1 0 K (some K)])] 3 1) k Q) :
  Zm Try.prog w0 N0 none (.region zpf (some reg56p)) (st 19 (zfc sq) [(0, 0, .cells [.int .i64 0, .nils])] 1 1) (.seq y :: k) Q := by
 refine z_any env0_ok.mix fun rd => zrl (by decide) (Inv56 K sq) (fun r D S j hI hj hni hpre go => step56 hsq hK r D S j hI hj hni hpre go) (fun D S hI hall => Um.ok ?_) 13 [] _ ⟨_, _, _, _, ⟨0, 0, 0, 0⟩, rfl, ⟨fun t v h => ?_, fun _ _ _ _ h => (by cases h)⟩, ⟨rfl, by decide, fun h => (by cases h), fun h => (by cases h), fun h => (by cases h), fun h => (by cases h), fun h => (by cases h), fun h => (by cases h), fun h => (by cases h)⟩⟩ rfl
 ·obtain ⟨l, hp, nx, ck, q, rfl, hL, hP⟩ := hI
  have h3 := hL.2 11 3 _ rfl (hall 11 (by decide))
  have b1 : zck 1 l = some (.vptr [.vptr sq]) := hL.1 _ _ (by unfold zfc; simp)
  have b2 : zck 2 l = some (.mptr 0 0 0) := hL.1 _ _ (by unfold zfc; simp)
  have k9 := hP.h9 (hall 9 (by decide))
  have kA := hP.hA (hall 11 (by decide))
  rw [y0w.2 (hall 12 (by decide)), if_pos rfl] at kA
  have l9 := hP.l9 (hall 9 (by decide))
  have lA := hP.lA (hall 11 (by decide))
  have hne := hP.ne (hall 9 (by decide)) (hall 11 (by decide))
  refine za7 ?_
  refine zbo [(some (q.i9, q.s9), ze3 K [.nils]), (some (0, 0), [.int .i64 0, .nils]), (some (q.iA, q.sA), [.int .i64 ((K : Nat) - 1), .ms 0 0 1 0 K (some K)])] [] [(1, .vptr [.vptr sq]), (2, .mptr 1 0 0), (3, .mptr 2 0 0)] ?_ .nil
   (.cons k9 (.keep (zum K)) (.cons hP.h0 (.keep rfl) (.cons kA (.cons (.same rfl) (.cons (.ms rfl) .nil)) .nil))) (.cons b1 (.same rfl) (.cons b2 (.mptr rfl) (.cons h3 (.mptr rfl) .nil))) fin
  show (!memN q.i9 [] && (!memN 0 [q.i9] && (!memN q.iA [0, q.i9] && true))) = true
  have m1 : memN 0 [q.i9] = false := by
   cases hb : memN 0 [q.i9] with
   | false => rfl
   | true => exact absurd (y0h.1 (zdf.1 hb)) (by omega)
  have m2 : memN q.iA [0, q.i9] = false := by
   cases hb : memN q.iA [0, q.i9] with
   | false => rfl
   | true =>
    have := zdf.1 hb
    simp only [y0i, y0f, or_false] at this
    omega
  rw [m1, m2]
  rfl
 ·unfold zfc at *
  simp only [y0i, y05, y0f, or_false] at h
  rcases h with ⟨rfl, rfl⟩ | ⟨rfl, rfl⟩
  ·rfl
  ·rfl
section
variable {P : Program} {w0 : World} {N0 : Nat} {k : List Fr} {Q : Exit → AS → Prop} {pf : Kn} {ios : List Opr} {n nx ck : Nat} {mk : List (Nat × Nat)} {md : Md} {l : List (Nat × AV)} {hp : List (Nat × Nat × AObj)}
theorem o_mks {d sz bytes : Nat} {z : List AV} {a c : Arg} {lv cv : Int} {kd kc : IntKind} (ha : zb0 a l = some (.int kd lv)) (hc : zb0 c l = some (.int kc cv)) (hb : 0 ≤ lv ∧ lv ≤ cv ∧ cv ≤ 1048576 ∧ bytes ≤ 16777216)
  (go : Om P w0 N0 md pf ios (st n ((d, .ms nx ck sz 0 lv.toNat (some cv.toNat)) :: l) ((nx, ck, .cells (ze3 cv.toNat z)) :: hp) (nx + 1) (ck + 1) mk) k Q) (hx : Ops pf (st n l hp nx ck mk) (.mkslice sz bytes z a c) := by exact trivial) :
  Om P w0 N0 md pf (⟨some d, .mkslice sz bytes z a c, none⟩ :: ios) (st n l hp nx ck mk) k Q :=
 zel (by simp only [iop, zar, ha, hc, if_pos hb]; rfl) go hx
theorem sq {l' : List (Nat × AV)} {hp' : List (Nat × Nat × AObj)} {nx' q : Nat} {mk' : List (Nat × Nat)} (hq : mk.length = q) (live : zgu) (fz : List (Nat × Nat × List AV)) (hh : hp' = zh0 0 live ++ zk9 live.length q) (hx : nx' = q + live.length) (hm : mk' = znv live.length q) (hok : okW (fz.map (·.1)) live = true) (hf : RnF hp fz) (h1 : RnH live fz hp live) (h2 : RnA live fz l l') : Sub0 w0 N0 (st n l hp nx ck mk) (st n l' hp' nx' 1 mk') := by
 subst hq hm
 exact zj0 live fz hh hx hok hf h1 h2
end
def zbi : IC → List (Code × Code)
 | .seq a b => zbi a ++ zbi b
 | .cond _ a b => zbi a ++ zbi b
 | .block _ b => zbi b
 | .loop b => zbi b
 | .rangeFunc _ _ ca cb _ _ => [(ca, cb)]
 | _ => []
theorem zg0 {S : AS} {id sp off : Nat} {v : AV} {cs ws : List AV} (h : Am.look id S.heap = some (sp, .cells cs)) (hlt : id < S.next) (hd : cs.drop off = v :: ws) : S.deref (.mptr id sp off) = some (v :: ws) := by
 simp only [AS.deref, h]
 rw [if_pos ⟨trivial, hlt⟩, hd]
def cE (es : List (Int × Int)) : List (List AV) := es.map fun e => [.int .i64 e.1, .int .i64 e.2]
theorem zdl (es : List (Int × Int)) : (cE es).length = es.length := y0e ..
theorem zs2 {es : List (Int × Int)} {i : Nat} (h : i < es.length) : (cE es)[((i : Nat) : Int).toNat]? = some [.int .i64 es[i].1, .int .i64 es[i].2] := by
 rw [y0y, cE, y0a, y09 h]
 rfl
def cG (n : Int) (es : List (Int × Int)) : AV := .agg [.int .i64 n, .vs (cE es)]
def zfr (n v : Int) : Bool := decide (v < 0) || decide (v ≥ n)
def zj8 (n : Int) (l : List Int) : Int := if l.any (zfr n) = true then 2 else 0
theorem zmv (n x : Int) (l : List Int) : zj8 n (x :: l) = if zfr n x = true then 2 else zj8 n l := by
 unfold zj8
 rw [List.any_cons]
 cases zfr n x <;> rfl
def znb (n : Int) (es : List (Int × Int)) : Int := if es.any (fun e => zfr n e.1 || zfr n e.2) = true then 2 else 0
theorem zlv (n : Int) (e : Int × Int) (es : List (Int × Int)) : znb n (e :: es) = if zj8 n [e.1, e.2] = 0 then znb n es else 2 := by
 unfold znb zj8
 rw [List.any_cons, List.any_cons, List.any_cons, List.any_nil, Bool.or_false]
 cases (zfr n e.1 || zfr n e.2) <;> rfl
theorem verE_two (n a b : Int) : zj8 n [a, b] = 0 ∨ zj8 n [a, b] = 2 := by
 unfold zj8
 split
 ·exact .inr rfl
 ·exact .inl rfl
def zj7 (n : Int) (es : List (Int × Int)) : Int := if n < 0 then 2 else if n > 256 then 2 else if es.length > 4096 then 5 else znb n es
theorem zn6 {n : Int} {es : List (Int × Int)} (h : n < 0) : zj7 n es = 2 := by unfold zj7; rw [if_pos h]
theorem zn5 {n : Int} {es : List (Int × Int)} (h : n > 256) : zj7 n es = 2 := by unfold zj7; rw [if_neg (by omega), if_pos h]
theorem zk6 {n : Int} {es : List (Int × Int)} (h0 : ¬ n < 0) (h1 : ¬ n > 256) (h : es.length > 4096) : zj7 n es = 5 := by unfold zj7; rw [if_neg h0, if_neg h1, if_pos h]
theorem zs6 {n : Int} {es : List (Int × Int)} (h0 : ¬ n < 0) (h1 : ¬ n > 256) (h : ¬ es.length > 4096) : zj7 n es = znb n es := by unfold zj7; rw [if_neg h0, if_neg h1, if_neg h]
def b57_0 : IC := .seq (.region [oM 10 (.bin .lss (.t 9) (.t 8))] none)
 (.seq (.cond (.t 10) (.skip)
 (.exit 0))
 (.seq (.block 1 (.seq (.region [oM 11 (.idxs 1 (.t 7) (.t 9)),
  oN 12 11,
  oT 6 12] none)
 (.seq (.region [oT 13 6,
  oM 14 (.bin .lss (.t 13) (.c (.int .i64 0))),
  oT 15 14,
  ⟨(some 16), .mov (.t 6), some (15, false)⟩,
  ⟨(some 17), .faddr 0 (.t 2), some (15, false)⟩,
  ⟨(some 18), .load none (.t 17), some (15, false)⟩,
  ⟨(some 19), .bin .geq (.t 16) (.t 18), some (15, false)⟩,
  oM 20 (.pick (.t 15) (.c (.bool true)) (.t 19))] none)
 (.cond (.t 20) (.seq (.region [oM 4 (.mov (.c (.int .i64 2)))] none)
 (.ret))
 (.skip)))))
 (.region [oM 21 (.bin .add (.t 9) (.c (.int .i64 1))),
  oT 9 21] none)))
-- pneumatic/digraph.vertex
def ic57 : IC := .seq (.region [oM 2 (.box (.t 0)),
  oM 4 (.mov (.c (.int .i64 0)))] none)
 (.seq (.seq (.region [oT 7 1,
  oM 8 (.len false (.t 7)),
  oM 9 (.mov (.c (.int .i64 0)))] none)
 (.block 0 (.loop b57_0)))
 (.seq (.region [oM 4 (.mov (.c (.int .i64 0)))] none)
 (.ret)))
theorem fn57 : env0.fn 57 = some ⟨22, ic57, [.t 4]⟩ := by kernel_rfl
set_option maxHeartbeats 1000000 in
theorem zpx (n : Int) (es : List (Int × Int)) (l : List Int) (hl : l.length ≤ 1000000) : PF Try.prog 57 [cG n es, vsI l] (.int .i64 (zj8 n l)) := by
 refine zb2 env0_ok fn57 [(0, .agg [.int .i64 n, .vs (cE es)]), (1, vsI l)] (by show 2 ≤ 22; decide) rfl fun w0 N0 => ?_
 unfold ic57
 refine zsr rfl (zdg rfl rfl (za3 rfl (onu ?_)))
 refine zbo [] [(0, 0, [.int .i64 n, .vs (cE es)])] [(1, vsI l), (2, .vptr [.int .i64 n, .vs (cE es)])] rfl (.cons rfl rfl .nil) .nil (.cons rfl (.same rfl) (.cons rfl (.fptr rfl rfl) .nil)) ?_
 have hlen : (l.map fun z => ([.int .i64 z] : List AV)).length = l.length := y0e ..
 repeat (first | refine za9 ?_ | refine za1 rfl ?_ | refine za8 ?_ | refine za7 ?_ | refine zah ?_ | refine za3 rfl ?_ | refine zcr rfl rfl ?_)
 refine zbn (fun mm S => ∃ i, mm = l.length - i ∧ i ≤ l.length ∧ zj8 n (l.drop i) = zj8 n l ∧ S = st 22 [(2, .vptr [.int .i64 n, .vs (cE es)]), (7, vsI l), (8, .int .i64 ((l.map fun z => ([.int .i64 z] : List AV)).length : Nat)), (9, .int .i64 (i : Nat))] [] 0 1) l.length
  (zaa (.cons rfl (.cons rfl (.cons rfl (.cons rfl .nil))))) ⟨0, rfl, y19 _, rfl, rfl⟩ ?_
 rintro mm S ⟨i, rfl, hi, hv, rfl⟩
 unfold b57_0
 repeat (first | refine za9 ?_ | refine za1 rfl ?_)
 refine zao rfl rfl rfl (fun h3 => ?_) fun h3 => ?_
 ·have hlt : i < l.length := by
   have h4 : ((i : Nat) : Int) < (((l.map fun z => ([.int .i64 z] : List AV)).length : Nat) : Int) := of_decide_eq_true h3
   omega
  have w1 : IntKind.wrap .i64 (((i : Nat) : Int) + 1) = ((i + 1 : Nat) : Int) := zab i (by omega)
  have hg := zj4 hlt
  have hs : zj8 n (l.drop i) = if zfr n l[i] = true then 2 else zj8 n (l.drop (i + 1)) := by rw [y1v hlt, zmv]
  unfold zfr at hs
  generalize l[i] = x at *
  repeat (first | refine za9 ?_ | refine za1 rfl ?_ | refine za8 ?_ | refine za7 ?_ | refine zah ?_ | refine zaf ?_ | refine zd8 rfl ?_ | refine za3 rfl ?_ | refine zad rfl rfl ?_ | refine zba rfl rfl (by omega) (by assumption) rfl ?_)
  refine zao rfl rfl rfl (fun h5 => ?_) fun h5 => ?_
  ·have h5 : decide (x < 0) = true := h5
   rw [h5, Bool.true_or, if_pos rfl, hv] at hs
   repeat (first | refine za9 ?_ | refine za1 rfl ?_ | refine za8 ?_ | refine za7 ?_ | refine zd8 rfl ?_ | refine zaz ?_ | refine zav ?_ | refine zc6 ?_ | refine zfd rfl rfl ?_ | refine za3 rfl ?_ | refine zb3 rfl rfl ?_)
   exact zam ⟨.inr rfl, _, rfl, by rw [hs]; rfl⟩
  ·have h5 : decide (x < 0) = false := h5
   repeat (first | refine zd1 rfl ?_ | refine za3 rfl ?_ | refine zad rfl rfl ?_ | refine zal rfl rfl rfl ?_)
   refine zao rfl rfl rfl (fun h6 => ?_) fun h6 => ?_
   ·have h6 : decide (x ≥ n) = true := h6
    rw [h5, h6, Bool.false_or, if_pos rfl, hv] at hs
    repeat (first | refine za9 ?_ | refine za1 rfl ?_ | refine za8 ?_ | refine za7 ?_ | refine zd8 rfl ?_ | refine zaz ?_ | refine zav ?_ | refine zc6 ?_ | refine za3 rfl ?_ | refine zaq rfl rfl ?_)
    exact zam ⟨.inr rfl, _, rfl, by rw [hs]; rfl⟩
   ·have h6 : decide (x ≥ n) = false := h6
    rw [h5, h6, if_neg (by decide), hv] at hs
    repeat (first | refine za1 rfl ?_ | refine za8 ?_ | refine za7 ?_ | refine zbm ?_ | refine zaf ?_ | refine zc3 rfl ?_ | refine za3 rfl ?_ | refine zaq rfl rfl ?_ | refine zb5 (op := .add) rfl rfl rfl ?_)
    rw [w1]
    exact zat (show l.length - (i + 1) < l.length - i by omega) (zaa (.cons rfl (.cons rfl (.cons rfl (.cons rfl .nil))))) ⟨i + 1, rfl, hlt, hs.symm, rfl⟩
 ·have hie : i = l.length := by
   have h4 : ¬ ((i : Nat) : Int) < (((l.map fun z => ([.int .i64 z] : List AV)).length : Nat) : Int) := of_decide_eq_false h3
   omega
  rw [hie, List.drop_length] at hv
  repeat (first | refine za9 ?_ | refine za8 ?_ | refine za7 ?_ | refine zc3 rfl ?_ | refine zbw ?_ | refine zak ?_)
  refine zdb ?_
  repeat (first | refine za9 ?_ | refine za1 rfl ?_ | refine za8 ?_ | refine za7 ?_ | refine zaz ?_ | refine zbu ?_ | refine za3 rfl ?_)
  exact zam ⟨.inr rfl, _, rfl, by rw [← hv]; rfl⟩
def b40_1 : IC := .seq (.region [oM 24 (.bin .lss (.t 23) (.t 22))] none)
 (.seq (.cond (.t 24) (.skip)
 (.exit 1))
 (.seq (.block 2 (.seq (.region [oM 25 (.idxs 2 (.t 21) (.t 23)),
  oL 26 2 25,
  oM 4 (.alloc [.int .i64 0, .int .i64 0]),
  ⟨none, .store 2 (.t 4) (.t 26), none⟩] none)
 (.seq (.region [oL 27 2 1,
  oF 28 0 4,
  oN 29 28,
  oF 30 1 4,
  oN 31 30,
  oM 32 (.bslice 1 2 [.int .i64 0, .int .i64 0] [(0, 1, (.t 29)), (1, 1, (.t 31))]),
  oM 33 (.call (.c (.fn 57 [] [])) [(.t 27), (.t 32)]),
  oT 5 33] none)
 (.seq (.region [oT 34 5,
  oM 35 (.bin .neq (.t 34) (.c (.int .i64 0)))] none)
 (.cond (.t 35) (.seq (.region [oT 36 5,
  oT 2 36] none)
 (.ret))
 (.skip))))))
 (.region [oM 37 (.bin .add (.t 23) (.c (.int .i64 1))),
  oT 23 37] none)))
-- pneumatic/digraph.Check
def ic40 : IC := .seq (.region [oM 1 (.box (.t 0)),
  oM 2 (.mov (.c (.int .i64 0)))] none)
 (.seq (.block 0 (.seq (.region [oF 7 0 1,
  oN 8 7,
  oM 9 (.bin .lss (.t 8) (.c (.int .i64 0))),
  oT 10 9,
  ⟨(some 11), .faddr 0 (.t 1), some (10, false)⟩,
  ⟨(some 12), .load none (.t 11), some (10, false)⟩,
  ⟨(some 13), .bin .gtr (.t 12) (.c (.int .i64 256)), some (10, false)⟩,
  oM 14 (.pick (.t 10) (.c (.bool true)) (.t 13)),
  oT 6 14] none)
 (.cond (.t 6) (.seq (.region [oM 2 (.mov (.c (.int .i64 2)))] none)
 (.ret))
 (.seq (.region [oF 16 1 1,
  oN 17 16,
  oM 18 (.len false (.t 17)),
  oM 19 (.bin .gtr (.t 18) (.c (.int .i64 4096))),
  oT 15 19] none)
 (.cond (.t 15) (.seq (.region [oM 2 (.mov (.c (.int .i64 5)))] none)
 (.ret))
 (.skip))))))
 (.seq (.seq (.region [oF 20 1 1,
  oN 21 20,
  oM 22 (.len false (.t 21)),
  oM 23 (.mov (.c (.int .i64 0)))] none)
 (.block 1 (.loop b40_1)))
 (.seq (.region [oM 2 (.mov (.c (.int .i64 0)))] none)
 (.ret))))
theorem fn40 : env0.fn 40 = some ⟨38, ic40, [.t 2]⟩ := by kernel_rfl
set_option maxHeartbeats 2000000 in
theorem check34 (n : Int) (es : List (Int × Int)) : PF Try.prog 40 [cG n es] (.int .i64 (zj7 n es)) := by
 have hcl := zdl es
 refine zb2 env0_ok fn40 [(0, .agg [.int .i64 n, .vs (cE es)])] (by show 1 ≤ 38; decide) rfl fun w0 N0 => ?_
 unfold ic40
 refine zsr rfl (zdg rfl rfl (za3 rfl (onu ?_)))
 refine zbo [] [(0, 0, [.int .i64 n, .vs (cE es)])] [(1, .vptr [.int .i64 n, .vs (cE es)])] rfl (.cons rfl rfl .nil) .nil (.cons rfl (.fptr rfl rfl) .nil) ?_
 repeat (first | refine za9 ?_ | refine za1 rfl ?_ | refine zah ?_ | refine zad rfl rfl ?_ | refine zal rfl rfl rfl ?_)
 refine zao rfl rfl rfl (fun h => ?_) fun h => ?_
 ·repeat (first | refine za9 ?_ | refine za1 rfl ?_ | refine za8 ?_ | refine za7 ?_ | refine zd8 rfl ?_ | refine zaz ?_ | refine zav ?_ | refine zc6 ?_ | refine zfd rfl rfl ?_ | refine za3 rfl ?_ | refine zb3 rfl rfl ?_)
  exact zam ⟨.inr rfl, _, rfl, by rw [zn6 (of_decide_eq_true h)]; rfl⟩
 have h0 : ¬ n < 0 := of_decide_eq_false h
 repeat (first | refine zd1 rfl ?_ | refine za3 rfl ?_ | refine zad rfl rfl ?_ | refine zal rfl rfl rfl ?_)
 refine zao rfl rfl rfl (fun h => ?_) fun h => ?_
 ·repeat (first | refine za9 ?_ | refine za1 rfl ?_ | refine za8 ?_ | refine za7 ?_ | refine zd8 rfl ?_ | refine zaz ?_ | refine zav ?_ | refine zc6 ?_ | refine za3 rfl ?_ | refine zaq rfl rfl ?_)
  exact zam ⟨.inr rfl, _, rfl, by rw [zn5 (of_decide_eq_true h)]; rfl⟩
 have h1 : ¬ n > 256 := of_decide_eq_false h
 repeat (first | refine za9 ?_ | refine za1 rfl ?_ | refine za8 ?_ | refine za7 ?_ | refine zc3 rfl ?_ | refine za3 rfl ?_ | refine zad rfl rfl ?_ | refine zal rfl rfl rfl ?_ | refine zaq rfl rfl ?_ | refine zcr rfl rfl ?_)
 refine zao rfl rfl rfl (fun h => ?_) fun h => ?_
 ·have h2 : (((cE es).length : Nat) : Int) > 4096 := of_decide_eq_true h
  repeat (first | refine za9 ?_ | refine za1 rfl ?_ | refine za8 ?_ | refine za7 ?_ | refine zd8 rfl ?_ | refine zaz ?_ | refine zav ?_ | refine zc6 ?_ | refine za3 rfl ?_)
  exact zam ⟨.inr rfl, _, rfl, by rw [zk6 h0 h1 (by omega)]; rfl⟩
 have h2 : ¬ (((cE es).length : Nat) : Int) > 4096 := of_decide_eq_false h
 rw [zs6 h0 h1 (by omega)]
 repeat (first | refine za9 ?_ | refine za1 rfl ?_ | refine za8 ?_ | refine za7 ?_ | refine zbm ?_ | refine zah ?_ | refine zaf ?_ | refine zc3 rfl ?_ | refine za3 rfl ?_ | refine zad rfl rfl ?_ | refine zal rfl rfl rfl ?_ | refine zcr rfl rfl ?_)
 refine zbn (fun mm S => ∃ i, mm = es.length - i ∧ i ≤ es.length ∧ znb n (es.drop i) = znb n es ∧ S = st 38 [(1, .vptr [.int .i64 n, .vs (cE es)]), (21, .vs (cE es)), (22, .int .i64 ((cE es).length : Nat)), (23, .int .i64 (i : Nat))] [] 0 1) es.length
  (zaa (.cons rfl (.cons rfl (.cons rfl (.cons rfl .nil))))) ⟨0, rfl, y19 _, rfl, rfl⟩ ?_
 rintro mm S ⟨i, rfl, hi, hv, rfl⟩
 unfold b40_1
 repeat (first | refine za9 ?_ | refine za1 rfl ?_)
 refine zao rfl rfl rfl (fun h3 => ?_) fun h3 => ?_
 ·have hlt : i < es.length := by
   have h4 : ((i : Nat) : Int) < (((cE es).length : Nat) : Int) := of_decide_eq_true h3
   omega
  have w1 : IntKind.wrap .i64 (((i : Nat) : Int) + 1) = ((i + 1 : Nat) : Int) := zab i (by omega)
  have hg := zs2 hlt
  have hs : znb n (es.drop i) = if zj8 n [es[i].1, es[i].2] = 0 then znb n (es.drop (i + 1)) else 2 := by rw [y1v hlt, zlv]
  generalize es[i].1 = a at *
  generalize es[i].2 = b at *
  have p56 := zpx n es [a, b] (by simp)
  repeat (first | refine za9 ?_ | refine za1 rfl ?_ | refine za8 ?_ | refine za7 ?_ | refine zah ?_ | refine zaf ?_ | refine zd8 rfl ?_ | refine zad rfl rfl ?_ | refine zb8 rfl rfl rfl rfl ?_ | refine zbq rfl rfl rfl rfl rfl rfl rfl ?_ | refine zae rfl ?_ | refine zbj ?_ | refine zc1 rfl rfl ?_ | refine zba rfl rfl (by omega) (by assumption) rfl ?_)
  refine zb4 rfl rfl p56 (fun _ => rfl) ?_
  rcases verE_two n a b with e | e
  ·rw [e] at hs
   rw [if_pos rfl, hv] at hs
   rw [e]
   repeat (first | refine za9 ?_ | refine za1 rfl ?_ | refine za8 ?_ | refine za7 ?_ | refine zbm ?_ | refine zaf ?_ | refine zc3 rfl ?_ | refine za3 rfl ?_ | refine zb5 (op := .add) rfl rfl rfl ?_ | refine ze9 rfl rfl rfl ?_)
   rw [w1]
   refine zat (show es.length - (i + 1) < es.length - i by omega) ?_ ⟨i + 1, rfl, hlt, hs.symm, rfl⟩
   exact zgd [] [] rfl rfl rfl .nil .nil (.cons rfl (.same rfl) (.cons rfl (.same rfl) (.cons rfl (.same rfl) (.cons rfl (.same rfl) .nil))))
  ·rw [e] at hs
   rw [if_neg (by decide), hv] at hs
   rw [e]
   repeat (first | refine za9 ?_ | refine za1 rfl ?_ | refine za8 ?_ | refine za7 ?_ | refine zd8 rfl ?_ | refine zaz ?_ | refine zav ?_ | refine zc6 ?_ | refine za3 rfl ?_ | refine zmc rfl rfl rfl ?_)
   exact zam ⟨.inr rfl, _, rfl, by rw [hs]; rfl⟩
 ·have hie : i = es.length := by
   have h4 : ¬ ((i : Nat) : Int) < (((cE es).length : Nat) : Int) := of_decide_eq_false h3
   omega
  rw [hie, List.drop_length] at hv
  repeat (first | refine za9 ?_ | refine za8 ?_ | refine za7 ?_ | refine zc3 rfl ?_ | refine zbw ?_ | refine zak ?_)
  refine zdb ?_
  repeat (first | refine za9 ?_ | refine za1 rfl ?_ | refine za8 ?_ | refine za7 ?_ | refine zaz ?_ | refine zbu ?_ | refine za3 rfl ?_)
  exact zam ⟨.inr rfl, _, rfl, by rw [← hv]; rfl⟩
def upd {α : Type} (f : Nat → α) (a : Nat) (x : α) : Nat → α := fun v => if v = a then x else f v
theorem zac {α : Type} (f : Nat → α) (a : Nat) (x : α) : upd f a x a = x := if_pos rfl
theorem za6 {α : Type} (f : Nat → α) {a v : Nat} (x : α) (h : v ≠ a) : upd f a x v = f v := if_neg h
theorem map_set {α : Type} (f : Nat → α) (m a : Nat) (x : α) : ((List.range m).map f).set a x = (List.range m).map (upd f a x) := by
 refine List.ext_getElem (by simp) fun i h1 h2 => ?_
 rw [List.getElem_set, List.getElem_map, List.getElem_map, List.getElem_range]
 by_cases h : a = i
 ·subst h
  rw [if_pos rfl, zac]
 ·rw [if_neg h, za6 _ _ (fun e => h e.symm)]
structure Jn (m : Nat) (nz : Nat → Bool) (cv : Nat → AV) (C : Nat → List Int) (ids sps : Nat → Nat) (hp : List (Nat × Nat × AObj)) (nx : Nat) : Prop where
 top : Am.look 0 hp = some (1, .cells ((List.range m).map cv))
 cell : ∀ v, v < m → nz v = true → Am.look (ids v) hp = some (sps v, .cells ((C v).map (AV.int .i64)))
 pos : ∀ v, v < m → nz v = true → 0 < ids v ∧ ids v < nx
 inj : ∀ u v, u < m → v < m → nz u = true → nz v = true → ids u = ids v → u = v
 nx0 : 0 < nx
section
variable {m : Nat} {nz : Nat → Bool} {cv : Nat → AV} {C : Nat → List Int} {ids sps : Nat → Nat} {hp : List (Nat × Nat × AObj)} {nx : Nat}
theorem Jn.fresh (h : Jn m nz cv C ids sps hp nx) (ck : Nat) (o : AObj) : Jn m nz cv C ids sps ((nx, ck, o) :: hp) (nx + 1) :=
 ⟨by rw [za2, if_neg (by have := h.nx0; omega)]; exact h.top, fun v hv hz => by rw [za2, if_neg (by have := h.pos v hv hz; omega)]; exact h.cell v hv hz,
  fun v hv hz => by have := h.pos v hv hz; omega, h.inj, Nat.succ_pos _⟩
theorem Jn.junk (h : Jn m nz cv C ids sps hp nx) {j : Nat} (h0 : j ≠ 0) (hj : ∀ v, v < m → nz v = true → ids v ≠ j) (x : Nat × AObj) : Jn m nz cv C ids sps (zbb j x hp) nx :=
 ⟨by rw [za4, if_neg h0]; exact h.top, fun v hv hz => by rw [za4, if_neg fun e => hj v hv hz e.symm]; exact h.cell v hv hz, h.pos, h.inj, h.nx0⟩
theorem Jn.block (h : Jn m nz cv C ids sps hp nx) {a : Nat} (ha : a < m) (hz : nz a = true) (sp : Nat) (D : List Int) : Jn m nz cv (upd C a D) ids (upd sps a sp) (zbb (ids a) (sp, .cells (D.map (AV.int .i64))) hp) nx := by
 refine ⟨by rw [za4, if_neg (by have := h.pos a ha hz; omega)]; exact h.top, fun v hv hzv => ?_, h.pos, h.inj, h.nx0⟩
 rw [za4]
 by_cases e : v = a
 ·subst e
  rw [if_pos rfl, zac, zac]
 ·rw [if_neg fun e2 => e (h.inj v a hv ha hzv hz e2.symm), za6 _ _ e, za6 _ _ e]
  exact h.cell v hv hzv
theorem Jn.cset (h : Jn m nz cv C ids sps hp nx) (a : Nat) (x : AV) : Jn m nz (upd cv a x) C ids sps (zbb 0 (1, .cells (((List.range m).map cv).set a x)) hp) nx :=
 ⟨by rw [za4, if_pos rfl, map_set], fun v hv hz => by rw [za4, if_neg (by have := h.pos v hv hz; omega)]; exact h.cell v hv hz, h.pos, h.inj, h.nx0⟩
theorem Jn.add (h : Jn m nz cv C ids sps hp nx) (a ck : Nat) (D : List Int) : Jn m (upd nz a true) cv (upd C a D) (upd ids a nx) (upd sps a ck) ((nx, ck, .cells (D.map (AV.int .i64))) :: hp) (nx + 1) := by
 refine ⟨by rw [za2, if_neg (by have := h.nx0; omega)]; exact h.top, fun v hv hz => ?_, fun v hv hz => ?_, fun u v hu hv hzu hzv e => ?_, Nat.succ_pos _⟩
 ·by_cases e : v = a
  ·subst e
   rw [zac, zac, zac, za2, if_pos rfl]
  ·rw [za6 _ _ e] at hz
   rw [za6 _ _ e, za6 _ _ e, za6 _ _ e, za2, if_neg (by have := h.pos v hv hz; omega)]
   exact h.cell v hv hz
 ·by_cases e : v = a
  ·subst e
   rw [zac]
   have := h.nx0
   omega
  ·rw [za6 _ _ e] at hz ⊢
   have := h.pos v hv hz
   omega
 ·by_cases e1 : u = a
  ·by_cases e2 : v = a
   ·rw [e1, e2]
   ·rw [za6 _ _ e2] at hzv
    subst e1
    rw [zac, za6 _ _ e2] at e
    have := h.pos v hv hzv
    omega
  ·rw [za6 _ _ e1] at hzu
   by_cases e2 : v = a
   ·subst e2
    rw [zac, za6 _ _ e1] at e
    have := h.pos u hu hzu
    omega
   ·rw [za6 _ _ e2] at hzv
    rw [za6 _ _ e1, za6 _ _ e2] at e
    exact h.inj u v hu hv hzu hzv e
theorem Jn.get (h : Jn m nz cv C ids sps hp nx) {a : Nat} (ha : a < m) : ((List.range m).map cv)[a]? = some (cv a) := by
 rw [y0a, y1a ha]
 rfl
def fzJ (m : Nat) (nz : Nat → Bool) (C : Nat → List Int) (ids sps : Nat → Nat) : List (Nat × Nat × List AV) := ((List.range m).filter nz).map fun v => (ids v, sps v, (C v).map (AV.int .i64))
theorem zou {id sp : Nat} {cs : List AV} : ∀ {l : List (Nat × Nat × List AV)}, (id, sp, cs) ∈ l → (∀ x ∈ l, x.1 = id → x.2.2 = cs) → fzl id sp l = some cs
 | [], h, _ => by cases h
 | (i, s, ds) :: l, h, hu => by
  rw [fzl]
  cases hb : Nat.beq i id && Nat.beq s sp with
  | true =>
   rw [y0g] at hb
   have := hu (i, s, ds) (y06 ..) (y0m hb.1)
   exact congrArg some this
  | false =>
   refine zou ((y0i.1 h).resolve_left fun e => ?_) fun x hx => hu x (y04 _ hx)
   injection e with e1 e2
   injection e2 with e2 e3
   subst e1 e2
   rw [y23, y23] at hb
   cases hb
theorem zph {hp : List (Nat × Nat × AObj)} : ∀ {l : List (Nat × Nat × List AV)}, (∀ x ∈ l, Am.look x.1 hp = some (x.2.1, .cells x.2.2) ∧ hasM.hasML x.2.2 = false) → RnF hp l
 | [], _ => .nil
 | (_, _, _) :: l, h => .cons (h _ (y06 ..)).1 (h _ (y06 ..)).2 (zph fun x hx => h x (y04 _ hx))
theorem zmm {live : zgu} {fz : List (Nat × Nat × List AV)} {f g : Nat → AV} : ∀ {l : List Nat}, (∀ v ∈ l, RenW live fz (f v) (g v)) → RnC live fz (l.map f) (l.map g)
 | [], _ => .nil
 | v :: l, h => .cons (h v (y06 ..)) (zmm fun x hx => h x (y04 _ hx))
theorem Jn.fzl (h : Jn m nz cv C ids sps hp nx) {v : Nat} (hv : v < m) (hz : nz v = true) : Am.fzl (ids v) (sps v) (fzJ m nz C ids sps) = some ((C v).map (AV.int .i64)) := by
 refine zou (y0k.2 ⟨v, y0t.2 ⟨y0j.2 hv, hz⟩, rfl⟩) fun x hx e => ?_
 obtain ⟨u, hu, rfl⟩ := y0k.1 hx
 obtain ⟨h1, h2⟩ := y0t.1 hu
 rw [h.inj u v (y0j.1 h1) hv h2 hz e]
theorem Jn.rnF (h : Jn m nz cv C ids sps hp nx) : RnF hp (fzJ m nz C ids sps) := zph fun x hx => by
 obtain ⟨u, hu, rfl⟩ := y0k.1 hx
 obtain ⟨h1, h2⟩ := y0t.1 hu
 exact ⟨h.cell u (y0j.1 h1) h2, zby _⟩
theorem Jn.ok (h : Jn m nz cv C ids sps hp nx) (cs : List AV) : okW ((fzJ m nz C ids sps).map (·.1)) [(some (0, 1), cs)] = true := by
 show (!memN 0 ((fzJ m nz C ids sps).map (·.1)) && true) = true
 have : memN 0 ((fzJ m nz C ids sps).map (·.1)) = false := by
  cases hb : memN 0 ((fzJ m nz C ids sps).map (·.1)) with
  | false => rfl
  | true =>
   obtain ⟨x, hx, e⟩ := y0k.1 (zdf.1 hb)
   obtain ⟨u, hu, rfl⟩ := y0k.1 hx
   obtain ⟨h1, h2⟩ := y0t.1 hu
   have := (h.pos u (y0j.1 h1) h2).1
   exact absurd e (Nat.ne_of_gt this)
 rw [this]
 rfl
end
theorem zjv (m : Nat) (x : AV) : ze3 m [x] = (List.range m).map fun _ => x := by
 have h : ∀ m : Nat, ze3 m [x] = List.replicate m x := by
  intro m
  induction m with
  | zero => rfl
  | succ m ih => exact (congrArg ([x] ++ ·) ih)
 rw [h, List.map_const', y12]
def zbs (E : List (Nat × Nat)) : List (Int × Int) := E.map fun e => ((e.1 : Nat), (e.2 : Nat))
theorem zlp {E : List (Nat × Nat)} {i : Nat} (h : i < E.length) : (cE (zbs E))[((i : Nat) : Int).toNat]? = some [.int .i64 (E[i].1 : Nat), .int .i64 (E[i].2 : Nat)] := by
 unfold cE zbs
 rw [y0y, y0a, y0a, y09 h]
 rfl
def vN (l : List Nat) : AV := .vs (l.map fun w => [.int .i64 (w : Nat)])
def cN (E : List (Nat × Nat)) (m : Nat) : AV := .vs ((List.range m).map fun v => [vN (nbr E m v)])
theorem raw_step {E : List (Nat × Nat)} {i : Nat} (h : i < E.length) (v : Nat) : raw (E.take (i + 1)) v = if E[i].1 = v then raw (E.take i) v ++ [((E[i].2 : Nat) : Int)] else raw (E.take i) v := by
 unfold raw
 rw [y2f, y09 h]
 show ((E.take i ++ [E[i]]).filter _).map _ = _
 rw [List.filter_append, y27, y1h]
 by_cases e : E[i].1 = v
 ·rw [if_pos (by simpa using e), if_pos e]
  rfl
 ·rw [if_neg (by simpa using e), if_neg e, List.filter_nil, List.map_nil, y13]
end Go.Proofs.Ytfbeableaihooaa
