/-
  LISTS THAT ARE JOINED: slices.Grow, slices.Concat.; THE LIBRARY's CONTRACTS of slices.Sort, slices.Compact and strings.ContainsFunc, laid at this program; the first two as told calls.; NO LETTER OF A NAME IS A STRANGE ONE; maps by texts.; A FUNCTION CALLED FOR EACH VARIABLE OF AN EXPRESSION.; THE CHECKER's SIGNALS.; REGIONS IN ALL THEIR ORDERS: some operations that only compute, and some that lay 
-/
import Derived.Test.YtdolbghhcijonaaGreatMX4
import Derived.Shelf.Sort.Plain
import Derived.Shelf.Slices.CompactI
import Derived.Shelf.Strings.FuncGrows
namespace Go.Proofs.YtdolbghhcijonaaGreat
open Go Go.Am
set_option maxRecDepth 100000
section
variable {P : Program} {w0 : World} {N0 : Nat} {k : List Fr} {Q : Exit -> AS -> Prop} {ios : List Opr} {n nx ck : Nat} {mk : List (Nat × Nat)} {md : Md} {l : List (Nat × AV)} {hp : List (Nat × Nat × AObj)}
theorem flat1 (es : List AV) : (es.map fun v => ([v] : List AV)).flatten = es := by
 induction es with
 | nil => rfl
 | cons v es ih => rw [y1a, y1d, ih]; rfl
theorem o_appj {pf : Kn} {d bytes : Nat} {z : List AV} {s x : Arg} {xv : AV} {id sp : Nat} (q J es : List AV) (hs : zas s l = some (.ms id sp 1 0 q.length none)) (hx : zas x l = some xv) (he : (st n l hp nx ck mk).elems 1 xv = some (es.map fun v => [v])) (hc : es.all AV.isCell = true) (hb : bytes <= 16777216) (hlk : Am.look id hp = some (sp, .cells (q ++ J)))
  (hle : q.length + es.length <= 1000000)
  (go : ∀ sp' hp' ck' J', Am.look id hp' = some (sp', .cells (q ++ es ++ J')) -> (∀ j, j ≠ id -> Am.look j hp' = Am.look j hp) -> (J' = [] \/ es = [] /\ J' = J) -> Om P w0 N0 md pf ios (st n ((d, .ms id sp' 1 0 (q ++ es).length none) :: l) hp' nx ck' mk) k Q)
  (hxo : Ops pf (st n l hp nx ck mk) (.append 1 bytes z s x) := by first | exact fun _ _ _ _ _ _ _ => rfl | exact apOk rfl rfl | exact zwf rfl) :
  Om P w0 N0 md pf (⟨some d, .append 1 bytes z s x, none⟩ :: ios) (st n l hp nx ck mk) k Q := by
 by_cases h0 : es = []
 ·subst h0;have hi : iop (st n l hp nx ck mk) (.append 1 bytes z s x) = some (.ms id sp 1 0 q.length none, st n l hp nx ck mk) := by
   simp only [iop, zai, hs, hx, he];rfl
  have g := go sp hp ck J (by rw [y0u]; exact hlk) (fun _ _ => rfl) (.inr ⟨rfl, rfl⟩);rw [y0u] at g;exact zdc hi g hxo
 ·have hl0 : ¬ (es.map fun v => ([v] : List AV)).length = 0 := by
   rw [y06];exact fun e => h0 (y0l.1 e)
  have hi : iop (st n l hp nx ck mk) (.append 1 bytes z s x) = some (.ms id ck 1 0 (q ++ es).length none, st n l (zau id (ck, .cells (q ++ es)) hp) nx (ck + 1) mk) := by
   simp only [iop, zai, hs, hx, he];unfold zc6;rw [if_neg hl0, if_pos ⟨by rw [flat1]; exact hc, hb⟩];simp only [show (st n l hp nx ck mk).heap = hp from rfl, hlk]
   rw [if_pos ⟨trivial, trivial, by rw [y0o, Nat.mul_one, y1g]; exact Nat.le_add_right _ _, by rw [y06]; omega⟩, flat1, y26, zjf, Nat.mul_one, List.take_left, y06, y0o];rfl
  exact zdc hi (go ck _ _ [] (by rw [za0, if_pos rfl, y0u]) (fun j hj => by rw [za0, if_neg (fun e => hj e.symm)]) (.inl rfl)) hxo
theorem zs9 {pf : Kn} {d : Nat} {a : Arg} (h : zas a l = some .nils) (go : Om P w0 N0 md pf ios (st n ((d, .int .i64 0) :: l) hp nx ck mk) k Q) (hx : Ops pf (st n l hp nx ck mk) (.capo a) := by exact trivial) : Om P w0 N0 md pf (⟨some d, .capo a, none⟩ :: ios) (st n l hp nx ck mk) k Q :=
 zdc (by simp only [iop, zai, h]; rfl) go hx
theorem o_sln {pf : Kn} {d sz : Nat} {a b : Arg} {kd : IntKind} (h : zas a l = some .nils) (hb : zas b l = some (.int kd 0)) (go : Om P w0 N0 md pf ios (st n ((d, .nils) :: l) hp nx ck mk) k Q) (hx : Ops pf (st n l hp nx ck mk) (.slsl sz a none (some b) none) := by exact trivial) : Om P w0 N0 md pf (⟨some d, .slsl sz a none (some b) none, none⟩ :: ios) (st n l hp nx ck mk) k Q :=
 zdc (by
  have e1 : (st n l hp nx ck mk).oarg none = some none := rfl;have e3 : (st n l hp nx ck mk).oarg (some b) = some (some (.int kd 0)) := (zwj (some b)).trans (by unfold oargA; simp only [hb]);simp only [iop, zai, h, e1, e3];rfl) go hx
theorem o_slm {pf : Kn} {d sz id sp len : Nat} {a b : Arg} {kd : IntKind} (h : zas a l = some (.ms id sp sz 0 len none)) (hb : zas b l = some (.int kd 0)) (go : Om P w0 N0 md pf ios (st n ((d, .ms id sp sz 0 0 none) :: l) hp nx ck mk) k Q) (hx : Ops pf (st n l hp nx ck mk) (.slsl sz a none (some b) none) := by exact trivial) : Om P w0 N0 md pf (⟨some d, .slsl sz a none (some b) none, none⟩ :: ios) (st n l hp nx ck mk) k Q :=
 zdc (by
  have e1 : (st n l hp nx ck mk).oarg none = some none := rfl;have e3 : (st n l hp nx ck mk).oarg (some b) = some (some (.int kd 0)) := (zwj (some b)).trans (by unfold oargA; simp only [hb]);simp only [iop, zai, h, e1, e3];unfold zx5;simp only [zdk];rw [if_pos ⟨trivial, y2b _, y2b _, y0z _⟩];simp) go hx
theorem o_appz {pf : Kn} {d bytes : Nat} {z : List AV} {s x : Arg} {kd : IntKind} {m : Nat} (h : zas s l = some .nils) (hx : zas x l = some (.int kd (m : Nat))) (h1 : 1 <= m) (h2 : m <= 1000000) (hb : bytes <= 16777216) (go : Om P w0 N0 md pf ios (st n ((d, .ms nx ck 1 0 m none) :: l) ((nx, ck, .cells (zf7 m z)) :: hp) (nx + 1) (ck + 1) mk) k Q) (hxo : Ops pf (st n l hp nx ck mk) (.appendz 1 bytes z s x) := by exact trivial) : Om P w0 N0 md pf (⟨some d, .appendz 1 bytes z s x, none⟩ :: ios) (st n l hp nx ck mk) k Q :=
 zdc (by
  simp only [iop, zai, h, hx];unfold zfm;dsimp only;rw [if_pos ⟨by omega, by omega, hb⟩, y1j];rfl) go hxo
end
def zmt {α : Type} (ls : List (List α)) : Nat := (ls.map List.length).sum
theorem zi4 {α : Type} (ls : List (List α)) : zmt ls = ls.flatten.length := by
 unfold zmt;rw [List.length_flatten]
theorem zi5 {α : Type} {ls : List (List α)} {i : Nat} (h : i < ls.length) : zmt (ls.take (i + 1)) = zmt (ls.take i) + (ls[i]).length := by
 unfold zmt;rw [List.take_add_one, y0e h, y11, List.sum_append];simp
theorem zoa {α : Type} (ls : List (List α)) (i : Nat) : zmt (ls.take i) <= zmt ls := by
 unfold zmt
 conv => rhs; rw [<- List.take_append_drop i ls]
 rw [y11, List.sum_append];omega
-- slices.Grow[[]bool,bool]
def ic112 : IC := sR [oM 4 (.mov (.c (.nils)))]
 (.seq (sR [oT 5 1,
  oM 6 (.bin .lss (.t 5) (cI 0))]
 (.cond (.t 6) (.region [oM 7 (.bad),
  ⟨none, .bad, none⟩] none)
 (.skip)))
 (.seq (sR [oT 8 1,
  oT 9 0,
  oM 10 (.capo (.t 9)),
  oT 11 0,
  oM 12 (.len false (.t 11)),
  oM 13 (.bin .sub (.t 10) (.t 12)),
  oM 14 (.bin .sub (.t 8) (.t 13)),
  oT 1 14]
 (sR [oT 15 1,
  oM 16 (.bin .gtr (.t 15) (cI 0))]
 (.cond (.t 16) (.region [oT 17 0,
  oT 18 0,
  oM 19 (.capo (.t 18)),
  oM 20 (.slsl 1 (.t 17) none (some (.t 19)) none),
  oT 21 1,
  oM 22 (.appendz 1 1 [.bool false] (.t 20) (.t 21)),
  oT 23 0,
  oM 24 (.len false (.t 23)),
  oM 25 (.slsl 1 (.t 22) none (some (.t 24)) none),
  oT 0 25] none)
 (.skip))))
 (sR [oT 26 0,
  oT 4 26]
 (.ret))))
theorem fn112 : env0.fn 112 = some ⟨27, ic112, [.t 4]⟩ := by kernel_rfl
theorem grow112 {w0 : World} {N0 m : Nat} (h1 : 1 <= m) (h2 : m <= 1000000) (H : HS) : FT Tryz.prog w0 N0 112 [.nils, .int .i64 (m : Nat)] H fun v H' => v = .ms H.next H.clk 1 0 0 none /\ H' = ⟨(H.next, H.clk, .cells (zf7 m [.bool false])) :: H.heap, H.next + 1, H.clk + 1⟩ := by
 refine zbr env0_ok fn112 [(0, .nils), (1, .int .i64 (m : Nat))] (y04 rfl) rfl ?_;unfold ic112;refine zbb ?_;refine zs9 rfl ?_;refine zbf ?_;rw [show IntKind.wrap .i64 ((0 : Int) - ((0 : Nat) : Int)) = 0 from rfl, show ((m : Nat) : Int) - 0 = ((m : Nat) : Int) by omega, zbe _ (by omega) (by omega)]
 refine za3 rfl rfl rfl (fun _ => ?_) fun h => absurd (of_decide_eq_false h) (by omega);refine zdo ?_;refine zs9 rfl ?_;refine o_sln rfl rfl ?_;repeat (first | refine zan rfl ?_)
 refine o_appz rfl rfl h1 h2 (by decide) ?_;refine zbt ?_;refine o_slm rfl rfl ?_;refine zdo ?_;exact zab ⟨.inr rfl, _, rfl, rfl, rfl⟩
def vvb (ls : List (List Bool)) : AV := .vs (ls.map fun l => [vsB l])
theorem zxm {ls : List (List Bool)} {i : Nat} (h : i < ls.length) : (ls.map fun l => ([vsB l] : List AV))[((i : Nat) : Int).toNat]? = some [vsB ls[i]] := by
 rw [y1j, y0m, y0e h];rfl
def b74_0 : IC := sR [oM 12 (.bin .lss (.t 11) (.t 10))]
 (.seq (.cond (.t 12) (.skip)
 (.exit 0))
 (.seq (.block 1 (sR [oM 13 (.idxs 1 (.t 9) (.t 11)),
  oN 14 13,
  oT 5 14]
 (sR [oT 15 3,
  oT 16 5,
  oM 17 (.len false (.t 16)),
  oM 18 (.bin .add (.t 15) (.t 17)),
  oT 3 18]
 (sR [oT 19 3,
  oM 20 (.bin .lss (.t 19) (cI 0))]
 (.cond (.t 20) (.region [oM 21 (.bad),
  ⟨none, .bad, none⟩] none)
 (.skip))))))
 (.region [oM 22 (.bin .add (.t 11) (cI 1)),
  oT 11 22] none)))
def b74_2 : IC := sR [oM 28 (.bin .lss (.t 27) (.t 26))]
 (.seq (.cond (.t 28) (.skip)
 (.exit 2))
 (.seq (.block 3 (sR [oM 29 (.idxs 1 (.t 25) (.t 27)),
  oN 30 29,
  oT 8 30]
 (.region [oT 31 6,
  oT 32 8,
  oM 33 (.append 1 1 [.bool false] (.t 31) (.t 32)),
  oT 6 33] none)))
 (.region [oM 34 (.bin .add (.t 27) (cI 1)),
  oT 27 34] none)))
-- slices.Concat[[]bool,bool]
def ic74 : IC := sR [oM 2 (.mov (.c (.nils)))]
 (sR [oM 3 (.mov (cI 0))]
 (.seq (sR [oT 9 0,
  oM 10 (.len false (.t 9)),
  oM 11 (.mov (cI 0))]
 (.block 0 (.loop b74_0)))
 (sR [oT 23 3,
  oM 24 (.call (.c (.fn 112 [] [])) [(.c (.nils)), (.t 23)]),
  oT 6 24]
 (.seq (sR [oT 25 0,
  oM 26 (.len false (.t 25)),
  oM 27 (.mov (cI 0))]
 (.block 2 (.loop b74_2)))
 (sR [oT 35 6,
  oT 2 35]
 (.ret))))))
theorem fn74 : env0.fn 74 = some ⟨36, ic74, [.t 2]⟩ := by kernel_rfl
set_option maxHeartbeats 4000000 in
set_option maxRecDepth 100000 in
theorem concat74 (ls : List (List Bool)) (hn : ls.length <= 1000) (h1 : 1 <= zmt ls) (h2 : zmt ls <= 100000) : PFo Tryz.prog 74 [vvb ls] 1 ls.flatten.length none (ls.flatten.map (AV.bool)) := by
 have hfl : ∀ l : List Bool, flat.flatL (l.map (AV.bool)) = true := fun l => by
  induction l with
  | nil => rfl
  | cons b l ih => exact ih
 refine zeg (hfl _) fun w0 N0 => ?_;have hll : (ls.map fun l => ([vsB l] : List AV)).length = ls.length := y06 ..;refine zbr env0_ok fn74 [(0, vvb ls)] (y04 rfl) rfl ?_;unfold ic74 vvb;refine zcb ?_;refine zav (fun mm S => ∃ i, mm = ls.length - i /\ i <= ls.length /\ S = st 36 [(0, vvb ls), (3, .int .i64 (zmt (ls.take i) : Nat)), (9, vvb ls), (10, .int .i64 (ls.length : Nat)), (11, .int .i64 (i : Nat))] [] 0 0) ls.length
  (zb2 (.cons rfl (.cons rfl (.cons rfl (.cons (by rw [<- hll]; rfl) (.cons rfl .nil)))))) ⟨0, rfl, y0q _, rfl⟩ ?_
 rintro mm S ⟨i, rfl, hi, rfl⟩;unfold b74_0 vvb;refine zdo ?_;refine za3 rfl rfl rfl (fun h3 => ?_) fun h3 => ?_
 ·have hlt : i < ls.length := y1r.1 (of_decide_eq_true h3);have hge := zxm hlt;have hst := zi5 hlt;have hle := zoa ls (i + 1);have w1 := za9 i (by omega);generalize ls[i] = l at *;have hl : (l.map fun b => ([AV.bool b] : List AV)).length = l.length := y06 ..;unfold vsB at hge;refine zbd ?_;rw [hl, zbe _ (by omega) (by omega), show ((zmt (ls.take i) : Nat) : Int) + (l.length : Nat) = ((zmt (ls.take (i + 1)) : Nat) : Int) by omega]
  refine zbb ?_;rw [w1];exact zad (show ls.length - (i + 1) < ls.length - i by omega) skp ⟨i + 1, rfl, hlt, rfl⟩
 have hie : i = ls.length := by
  have h4 : ¬ ((i : Nat) : Int) < (ls.length : Nat) := of_decide_eq_false h3;omega
 rw [hie, y1o];refine zbb ?_;refine zbp ?_;refine zbb ?_;refine zjn _ rfl rfl (zc4 (grow112 h1 (by omega) ⟨[], 0, 0⟩)) (fun v H hF => ?_) fun v H hF => ?_
 ·obtain ⟨rfl, rfl⟩ := hF;exact fun m hm => absurd hm y07
 obtain ⟨rfl, rfl⟩ := hF;refine zcb ?_;refine zav (fun mm S => ∃ (i sp ck : Nat) (J : List AV) (hp : List (Nat × Nat × AObj)), mm = ls.length - i /\ i <= ls.length /\ (J = [] \/ (ls.take i).flatten = []) /\ Am.look 0 hp = some (sp, .cells ((ls.take i).flatten.map (AV.bool) ++ J)) /\ S = st 36 [(6, .ms 0 sp 1 0 ((ls.take i).flatten.map (AV.bool)).length none), (25, vvb ls), (26, .int .i64 (ls.length : Nat)), (27, .int .i64 (i : Nat))] hp 1 ck) ls.length
  (zb2 (.cons rfl (.cons rfl (.cons (by rw [<- hll]; rfl) (.cons rfl .nil))))) ⟨0, 0, 1, zf7 (zmt ls) [.bool false], _, rfl, y0q _, .inr rfl, rfl, rfl⟩ ?_
 rintro mm S ⟨i, sp, ck, J, hp, rfl, hi, hJ, hlk, rfl⟩;unfold b74_2 vvb;refine zdo ?_;refine za3 rfl rfl rfl (fun h3 => ?_) fun h3 => ?_
 ·have hlt : i < ls.length := y1r.1 (of_decide_eq_true h3);have hge := zxm hlt;have hst := zi5 hlt;have hle := zoa ls (i + 1);have htk : (ls.take (i + 1)).flatten = (ls.take i).flatten ++ ls[i] := by
   rw [List.take_add_one, y0e hlt, List.flatten_append];simp
  have hsf := zi4 (ls.take i);have w1 := za9 i (by omega);generalize ls[i] = l at *;unfold vsB at hge;refine zbd ?_;refine o_appj _ J (l.map (AV.bool)) rfl rfl ?_ ?_ (by decide) hlk ?_ ?_
  ·rw [zd1 (xs := l.map fun b => [AV.bool b]) (fun x hx => by obtain ⟨_, _, rfl⟩ := y0p.1 hx; rfl), y1x];rfl
  ·rw [y0h];intro x hx;obtain ⟨_, _, rfl⟩ := y0p.1 hx;rfl
  ·rw [y06, y06];omega
  intro sp' hp' ck' J' k1 k2 k3;refine zbd ?_;rw [w1];refine zad (show ls.length - (i + 1) < ls.length - i by omega) (zb2 (.cons (by rw [<- y11, <- htk]; rfl) (.cons rfl (.cons rfl (.cons rfl .nil))))) ⟨i + 1, sp', ck', J', hp', rfl, hlt, ?_, ?_, rfl⟩
  ·rcases k3 with e | ⟨e, e2⟩
   ·exact .inl e
   ·rcases hJ with h | h
    ·exact .inl (e2.trans h)
    ·refine .inr ?_;rw [htk, h, List.map_eq_nil_iff.1 e];rfl
  ·rw [k1, htk, y11]
 have hie : i = ls.length := by
  have h4 : ¬ ((i : Nat) : Int) < (ls.length : Nat) := of_decide_eq_false h3;omega
 rw [hie, y1o] at hJ hlk ⊢;have hJ0 : J = [] := by
  rcases hJ with h | h
  ·exact h
  ·rw [zi4, h] at h1;exact absurd h1 (by decide)
 subst hJ0;rw [y0u] at hlk;refine zbb ?_;refine zbp ?_;refine zbb ?_;refine zab ⟨.inr rfl, _, rfl, 0, sp, ?_, hlk⟩;rw [y06]
-- slices.Grow[[]int,int]
def ic132 : IC := sR [oM 4 (.mov (.c (.nils)))]
 (.seq (sR [oT 5 1,
  oM 6 (.bin .lss (.t 5) (cI 0))]
 (.cond (.t 6) (.region [oM 7 (.bad),
  ⟨none, .bad, none⟩] none)
 (.skip)))
 (.seq (sR [oT 8 1,
  oT 9 0,
  oM 10 (.capo (.t 9)),
  oT 11 0,
  oM 12 (.len false (.t 11)),
  oM 13 (.bin .sub (.t 10) (.t 12)),
  oM 14 (.bin .sub (.t 8) (.t 13)),
  oT 1 14]
 (sR [oT 15 1,
  oM 16 (.bin .gtr (.t 15) (cI 0))]
 (.cond (.t 16) (.region [oT 17 0,
  oT 18 0,
  oM 19 (.capo (.t 18)),
  oM 20 (.slsl 1 (.t 17) none (some (.t 19)) none),
  oT 21 1,
  oM 22 (.appendz 1 8 [.int .i64 0] (.t 20) (.t 21)),
  oT 23 0,
  oM 24 (.len false (.t 23)),
  oM 25 (.slsl 1 (.t 22) none (some (.t 24)) none),
  oT 0 25] none)
 (.skip))))
 (sR [oT 26 0,
  oT 4 26]
 (.ret))))
theorem fn132 : env0.fn 132 = some ⟨27, ic132, [.t 4]⟩ := by kernel_rfl
theorem grow132 {w0 : World} {N0 m : Nat} (h1 : 1 <= m) (h2 : m <= 1000000) (H : HS) : FT Tryz.prog w0 N0 132 [.nils, .int .i64 (m : Nat)] H fun v H' => v = .ms H.next H.clk 1 0 0 none /\ H' = ⟨(H.next, H.clk, .cells (zf7 m [.int .i64 0])) :: H.heap, H.next + 1, H.clk + 1⟩ := by
 refine zbr env0_ok fn132 [(0, .nils), (1, .int .i64 (m : Nat))] (y04 rfl) rfl ?_;unfold ic132;refine zbb ?_;refine zs9 rfl ?_;refine zbf ?_;rw [show IntKind.wrap .i64 ((0 : Int) - ((0 : Nat) : Int)) = 0 from rfl, show ((m : Nat) : Int) - 0 = ((m : Nat) : Int) by omega, zbe _ (by omega) (by omega)]
 refine za3 rfl rfl rfl (fun _ => ?_) fun h => absurd (of_decide_eq_false h) (by omega);refine zdo ?_;refine zs9 rfl ?_;refine o_sln rfl rfl ?_;repeat (first | refine zan rfl ?_)
 refine o_appz rfl rfl h1 h2 (by decide) ?_;refine zbt ?_;refine o_slm rfl rfl ?_;refine zdo ?_;exact zab ⟨.inr rfl, _, rfl, rfl, rfl⟩
def vvz (ls : List (List Int)) : AV := .vs (ls.map fun l => [vsI l])
theorem zxn {ls : List (List Int)} {i : Nat} (h : i < ls.length) : (ls.map fun l => ([vsI l] : List AV))[((i : Nat) : Int).toNat]? = some [vsI ls[i]] := by
 rw [y1j, y0m, y0e h];rfl
def b110_0 : IC := sR [oM 12 (.bin .lss (.t 11) (.t 10))]
 (.seq (.cond (.t 12) (.skip)
 (.exit 0))
 (.seq (.block 1 (sR [oM 13 (.idxs 1 (.t 9) (.t 11)),
  oN 14 13,
  oT 5 14]
 (sR [oT 15 3,
  oT 16 5,
  oM 17 (.len false (.t 16)),
  oM 18 (.bin .add (.t 15) (.t 17)),
  oT 3 18]
 (sR [oT 19 3,
  oM 20 (.bin .lss (.t 19) (cI 0))]
 (.cond (.t 20) (.region [oM 21 (.bad),
  ⟨none, .bad, none⟩] none)
 (.skip))))))
 (.region [oM 22 (.bin .add (.t 11) (cI 1)),
  oT 11 22] none)))
def b110_2 : IC := sR [oM 28 (.bin .lss (.t 27) (.t 26))]
 (.seq (.cond (.t 28) (.skip)
 (.exit 2))
 (.seq (.block 3 (sR [oM 29 (.idxs 1 (.t 25) (.t 27)),
  oN 30 29,
  oT 8 30]
 (.region [oT 31 6,
  oT 32 8,
  oM 33 (.append 1 8 [.int .i64 0] (.t 31) (.t 32)),
  oT 6 33] none)))
 (.region [oM 34 (.bin .add (.t 27) (cI 1)),
  oT 27 34] none)))
-- slices.Concat[[]int,int]
def ic110 : IC := sR [oM 2 (.mov (.c (.nils)))]
 (sR [oM 3 (.mov (cI 0))]
 (.seq (sR [oT 9 0,
  oM 10 (.len false (.t 9)),
  oM 11 (.mov (cI 0))]
 (.block 0 (.loop b110_0)))
 (sR [oT 23 3,
  oM 24 (.call (.c (.fn 132 [] [])) [(.c (.nils)), (.t 23)]),
  oT 6 24]
 (.seq (sR [oT 25 0,
  oM 26 (.len false (.t 25)),
  oM 27 (.mov (cI 0))]
 (.block 2 (.loop b110_2)))
 (sR [oT 35 6,
  oT 2 35]
 (.ret))))))
theorem fn110 : env0.fn 110 = some ⟨36, ic110, [.t 2]⟩ := by kernel_rfl
set_option maxHeartbeats 4000000 in
set_option maxRecDepth 100000 in
theorem zv3 (ls : List (List Int)) (hn : ls.length <= 1000) (h1 : 1 <= zmt ls) (h2 : zmt ls <= 100000) : PFo Tryz.prog 110 [vvz ls] 1 ls.flatten.length none (ls.flatten.map (AV.int .i64)) := by
 have hfl : ∀ l : List Int, flat.flatL (l.map (AV.int .i64)) = true := fun l => by
  induction l with
  | nil => rfl
  | cons b l ih => exact ih
 refine zeg (hfl _) fun w0 N0 => ?_;have hll : (ls.map fun l => ([vsI l] : List AV)).length = ls.length := y06 ..;refine zbr env0_ok fn110 [(0, vvz ls)] (y04 rfl) rfl ?_;unfold ic110 vvz;refine zcb ?_;refine zav (fun mm S => ∃ i, mm = ls.length - i /\ i <= ls.length /\ S = st 36 [(0, vvz ls), (3, .int .i64 (zmt (ls.take i) : Nat)), (9, vvz ls), (10, .int .i64 (ls.length : Nat)), (11, .int .i64 (i : Nat))] [] 0 0) ls.length
  (zb2 (.cons rfl (.cons rfl (.cons rfl (.cons (by rw [<- hll]; rfl) (.cons rfl .nil)))))) ⟨0, rfl, y0q _, rfl⟩ ?_
 rintro mm S ⟨i, rfl, hi, rfl⟩;unfold b110_0 vvz;refine zdo ?_;refine za3 rfl rfl rfl (fun h3 => ?_) fun h3 => ?_
 ·have hlt : i < ls.length := y1r.1 (of_decide_eq_true h3);have hge := zxn hlt;have hst := zi5 hlt;have hle := zoa ls (i + 1);have w1 := za9 i (by omega);generalize ls[i] = l at *;have hl : (l.map fun b => ([AV.int .i64 b] : List AV)).length = l.length := y06 ..;unfold vsI at hge;refine zbd ?_;rw [hl, zbe _ (by omega) (by omega), show ((zmt (ls.take i) : Nat) : Int) + (l.length : Nat) = ((zmt (ls.take (i + 1)) : Nat) : Int) by omega]
  refine zbb ?_;rw [w1];exact zad (show ls.length - (i + 1) < ls.length - i by omega) skp ⟨i + 1, rfl, hlt, rfl⟩
 have hie : i = ls.length := by
  have h4 : ¬ ((i : Nat) : Int) < (ls.length : Nat) := of_decide_eq_false h3;omega
 rw [hie, y1o];refine zbb ?_;refine zbp ?_;refine zbb ?_;refine zjn _ rfl rfl (zc4 (grow132 h1 (by omega) ⟨[], 0, 0⟩)) (fun v H hF => ?_) fun v H hF => ?_
 ·obtain ⟨rfl, rfl⟩ := hF;exact fun m hm => absurd hm y07
 obtain ⟨rfl, rfl⟩ := hF;refine zcb ?_;refine zav (fun mm S => ∃ (i sp ck : Nat) (J : List AV) (hp : List (Nat × Nat × AObj)), mm = ls.length - i /\ i <= ls.length /\ (J = [] \/ (ls.take i).flatten = []) /\ Am.look 0 hp = some (sp, .cells ((ls.take i).flatten.map (AV.int .i64) ++ J)) /\ S = st 36 [(6, .ms 0 sp 1 0 ((ls.take i).flatten.map (AV.int .i64)).length none), (25, vvz ls), (26, .int .i64 (ls.length : Nat)), (27, .int .i64 (i : Nat))] hp 1 ck) ls.length
  (zb2 (.cons rfl (.cons rfl (.cons (by rw [<- hll]; rfl) (.cons rfl .nil))))) ⟨0, 0, 1, zf7 (zmt ls) [.int .i64 0], _, rfl, y0q _, .inr rfl, rfl, rfl⟩ ?_
 rintro mm S ⟨i, sp, ck, J, hp, rfl, hi, hJ, hlk, rfl⟩;unfold b110_2 vvz;refine zdo ?_;refine za3 rfl rfl rfl (fun h3 => ?_) fun h3 => ?_
 ·have hlt : i < ls.length := y1r.1 (of_decide_eq_true h3);have hge := zxn hlt;have hst := zi5 hlt;have hle := zoa ls (i + 1);have htk : (ls.take (i + 1)).flatten = (ls.take i).flatten ++ ls[i] := by
   rw [List.take_add_one, y0e hlt, List.flatten_append];simp
  have hsf := zi4 (ls.take i);have w1 := za9 i (by omega);generalize ls[i] = l at *;unfold vsI at hge;refine zbd ?_;refine o_appj _ J (l.map (AV.int .i64)) rfl rfl ?_ ?_ (by decide) hlk ?_ ?_
  ·rw [zd1 (xs := l.map fun b => [AV.int .i64 b]) (fun x hx => by obtain ⟨_, _, rfl⟩ := y0p.1 hx; rfl), y1x];rfl
  ·rw [y0h];intro x hx;obtain ⟨_, _, rfl⟩ := y0p.1 hx;rfl
  ·rw [y06, y06];omega
  intro sp' hp' ck' J' k1 k2 k3;refine zbd ?_;rw [w1];refine zad (show ls.length - (i + 1) < ls.length - i by omega) (zb2 (.cons (by rw [<- y11, <- htk]; rfl) (.cons rfl (.cons rfl (.cons rfl .nil))))) ⟨i + 1, sp', ck', J', hp', rfl, hlt, ?_, ?_, rfl⟩
  ·rcases k3 with e | ⟨e, e2⟩
   ·exact .inl e
   ·rcases hJ with h | h
    ·exact .inl (e2.trans h)
    ·refine .inr ?_;rw [htk, h, List.map_eq_nil_iff.1 e];rfl
  ·rw [k1, htk, y11]
 have hie : i = ls.length := by
  have h4 : ¬ ((i : Nat) : Int) < (ls.length : Nat) := of_decide_eq_false h3;omega
 rw [hie, y1o] at hJ hlk ⊢;have hJ0 : J = [] := by
  rcases hJ with h | h
  ·exact h
  ·rw [zi4, h] at h1;exact absurd h1 (by decide)
 subst hJ0;rw [y0u] at hlk;refine zbb ?_;refine zbp ?_;refine zbb ?_;refine zab ⟨.inr rfl, _, rfl, 0, sp, ?_, hlk⟩;rw [y06]
end Go.Proofs.YtdolbghhcijonaaGreat
namespace Go.Proofs
open Go.Shelf
def Tryz.lays189_ren : Go.Shelf.Ren := ⟨fun | 189 => 40 | 125 => 65 | 257 => 64 | 128 => 100 | 129 => 101 | 294 => 91 | 295 => 92 | 296 => 93 | 297 => 94 | 298 => 95 | 299 => 96 | 216 => 97 | 300 => 98 | 301 => 99 | 328 => 120 | 329 => 121 | 330 => 122 | 331 => 123 | 332 => 124 | 215 => 125 | 343 => 137 | n => n, fun | 28 => 24 | 3 => 3 | 46 => 101 | 0 => 0 | 51 => 129 | 53 => 131 | 4 => 4 | 183 => 121 | 182 => 120 | 131 => 126 | 5 => 5 | 9 => 9 | 218 => 155 | 222 => 159 | 228 => 168 | 229 => 169 | n => n, fun | n => n⟩
theorem Tryz.lays189 : Go.Proofs.Lays.n189 Tryz.prog Tryz.lays189_ren := {
 mixed := by kernel_rfl
 f125 := Tryz.func65.trans (congrArg some (by kernel_rfl))
 f128 := Tryz.func100.trans (congrArg some (by kernel_rfl))
 f129 := Tryz.func101.trans (congrArg some (by kernel_rfl))
 f189 := Tryz.func40.trans (congrArg some (by kernel_rfl))
 f215 := Tryz.func125.trans (congrArg some (by kernel_rfl))
 f216 := Tryz.func97.trans (congrArg some (by kernel_rfl))
 f257 := Tryz.func64.trans (congrArg some (by kernel_rfl))
 f294 := Tryz.func91.trans (congrArg some (by kernel_rfl))
 f295 := Tryz.func92.trans (congrArg some (by kernel_rfl))
 f296 := Tryz.func93.trans (congrArg some (by kernel_rfl))
 f297 := Tryz.func94.trans (congrArg some (by kernel_rfl))
 f298 := Tryz.func95.trans (congrArg some (by kernel_rfl))
 f299 := Tryz.func96.trans (congrArg some (by kernel_rfl))
 f300 := Tryz.func98.trans (congrArg some (by kernel_rfl))
 f301 := Tryz.func99.trans (congrArg some (by kernel_rfl))
 f328 := Tryz.func120.trans (congrArg some (by kernel_rfl))
 f329 := Tryz.func121.trans (congrArg some (by kernel_rfl))
 f330 := Tryz.func122.trans (congrArg some (by kernel_rfl))
 f331 := Tryz.func123.trans (congrArg some (by kernel_rfl))
 f332 := Tryz.func124.trans (congrArg some (by kernel_rfl))
 f343 := Tryz.func137.trans (congrArg some (by kernel_rfl))
 t0 := Tryz.underlying0
 a0 := Tryz.isAgg0
 z0 := Tryz.sizeOf0
 v0 := Tryz.zeroValue0
 t3 := Tryz.underlying3
 a3 := Tryz.isAgg3
 z3 := Tryz.sizeOf3
 v3 := Tryz.zeroValue3
 t4 := Tryz.underlying4
 a4 := Tryz.isAgg4
 z4 := Tryz.sizeOf4
 v4 := Tryz.zeroValue4
 t5 := Tryz.underlying5
 a5 := Tryz.isAgg5
 z5 := Tryz.sizeOf5
 v5 := Tryz.zeroValue5
 t9 := Tryz.underlying9
 a9 := Tryz.isAgg9
 z9 := Tryz.sizeOf9
 v9 := Tryz.zeroValue9
 t28 := Tryz.underlying24
 a28 := Tryz.isAgg24
 z28 := Tryz.sizeOf24
 v28 := Tryz.zeroValue24
 t46 := Tryz.underlying101
 a46 := Tryz.isAgg101
 z46 := Tryz.sizeOf101
 v46 := Tryz.zeroValue101
 t51 := Tryz.underlying129
 a51 := Tryz.isAgg129
 z51 := Tryz.sizeOf129
 v51 := Tryz.zeroValue129
 t53 := Tryz.underlying131
 a53 := Tryz.isAgg131
 z53 := Tryz.sizeOf131
 v53 := Tryz.zeroValue131
 t131 := Tryz.underlying126
 a131 := Tryz.isAgg126
 z131 := Tryz.sizeOf126
 v131 := Tryz.zeroValue126
 t182 := Tryz.underlying120
 a182 := Tryz.isAgg120
 z182 := Tryz.sizeOf120
 v182 := Tryz.zeroValue120
 t183 := Tryz.underlying121
 a183 := Tryz.isAgg121
 z183 := Tryz.sizeOf121
 v183 := Tryz.zeroValue121
 t218 := Tryz.underlying155
 a218 := Tryz.isAgg155
 z218 := Tryz.sizeOf155
 v218 := Tryz.zeroValue155
 t222 := Tryz.underlying159
 a222 := Tryz.isAgg159
 z222 := Tryz.sizeOf159
 v222 := Tryz.zeroValue159
 t228 := Tryz.underlying168
 a228 := Tryz.isAgg168
 z228 := Tryz.sizeOf168
 v228 := Tryz.zeroValue168
 t229 := Tryz.underlying169
 a229 := Tryz.isAgg169
 z229 := Tryz.sizeOf169
 v229 := Tryz.zeroValue169 }
open Go.Sort Go.RowKit in
theorem Tryz.slices_Sort_int (blk off cap : Nat) (zs : List Int) (w : World) (hH : Holds (Value.int .i64) w blk off zs.toArray) (hblk : blk < w.heap.size) (hsz : zs.length < 4611686018427387904) :
  Calls Tryz.prog 40 #[.slice (some ⟨blk, off, none⟩) zs.length cap] w fun e w' =>
   e = .returned (.tuple #[]) /\ ∃ n os, w' = grow (putRow (Value.int .i64) (Sort.ahead w n) blk off (zs.mergeSort fun x y => decide (x <= y)).toArray) os := Any.slices_Sort_int Tryz.lays189 blk off cap zs w hH hblk hsz
def Tryz.laysNm220_ren : Go.Shelf.Ren := ⟨fun | 20 => 41 | n => n, fun | 22 => 24 | 3 => 3 | 4 => 4 | 0 => 0 | n => n, fun | n => n⟩
theorem Tryz.laysNm220 : Go.Proofs.Lays2.n20 Tryz.prog Tryz.laysNm220_ren := {
 mixed := by kernel_rfl
 f20 := Tryz.func41.trans (congrArg some (by kernel_rfl))
 t0 := Tryz.underlying0
 a0 := Tryz.isAgg0
 z0 := Tryz.sizeOf0
 v0 := Tryz.zeroValue0
 t3 := Tryz.underlying3
 a3 := Tryz.isAgg3
 z3 := Tryz.sizeOf3
 v3 := Tryz.zeroValue3
 t4 := Tryz.underlying4
 a4 := Tryz.isAgg4
 z4 := Tryz.sizeOf4
 v4 := Tryz.zeroValue4
 t22 := Tryz.underlying24
 a22 := Tryz.isAgg24
 z22 := Tryz.sizeOf24
 v22 := Tryz.zeroValue24
 i3 := by kernel_rfl }
open Go.RowKit Go.Lib Go.Sort in
theorem Tryz.slices_Compact_int (blk off cap : Nat) (zs : List Int) (w : World) (hH : Holds (Value.int .i64) w blk off zs.toArray) (hsz : zs.length <= 9223372036854775807) (hcap : zs.length <= cap) :
  Calls Tryz.prog 41 #[.slice (some ⟨blk, off, none⟩) zs.length cap] w fun e w' => e = .returned (.slice (some ⟨blk, off, none⟩) (Lib.compact zs).length cap) /\ ∃ q, w' = putRow (Value.int .i64) (Sort.ahead w q) blk off (Lib.compact zs ++ List.replicate (zs.length - (Lib.compact zs).length) 0).toArray := Any.slices_Compact_int Tryz.laysNm220 blk off cap zs w hH hsz hcap
def Tryz.laysGw17_ren : Go.Shelf.Ren := ⟨fun | 17 => 129 | 15 => 138 | 20 => 140 | n => n, fun | 9 => 9 | 23 => 163 | 4 => 4 | 3 => 3 | 0 => 0 | 21 => 21 | n => n, fun | n => n⟩
theorem Tryz.laysGw17 : Go.Proofs.LaysGw.n17 Tryz.prog Tryz.laysGw17_ren := {
 mixed := by kernel_rfl
 f15 := Tryz.func138.trans (congrArg some (by kernel_rfl))
 f17 := Tryz.func129.trans (congrArg some (by kernel_rfl))
 f20 := Tryz.func140.trans (congrArg some (by kernel_rfl))
 t0 := Tryz.underlying0
 a0 := Tryz.isAgg0
 z0 := Tryz.sizeOf0
 v0 := Tryz.zeroValue0
 i0 := by kernel_rfl
 t3 := Tryz.underlying3
 a3 := Tryz.isAgg3
 z3 := Tryz.sizeOf3
 v3 := Tryz.zeroValue3
 i3 := by kernel_rfl
 t4 := Tryz.underlying4
 a4 := Tryz.isAgg4
 z4 := Tryz.sizeOf4
 v4 := Tryz.zeroValue4
 i4 := by kernel_rfl
 t9 := Tryz.underlying9
 a9 := Tryz.isAgg9
 z9 := Tryz.sizeOf9
 v9 := Tryz.zeroValue9
 i9 := by kernel_rfl
 t21 := Tryz.underlying21
 a21 := Tryz.isAgg21
 z21 := Tryz.sizeOf21
 v21 := Tryz.zeroValue21
 i21 := by kernel_rfl
 t23 := Tryz.underlying163
 a23 := Tryz.isAgg163
 z23 := Tryz.sizeOf163
 v23 := Tryz.zeroValue163
 i23 := by kernel_rfl }
open Go.RowKit Go.Lib in
theorem Tryz.strings_ContainsFunc_grows (g : Nat) (lb : Array Value) (eg : ∀ args w, (callFunc g args).run Tryz.prog w = .ok (.enter g args) w) (p : Nat -> Bool) (s : ByteArray) (w : World) (hp : PredGrows Tryz.prog g lb p w) :
  Calls Tryz.prog 129 #[.string s, .func (.func g) #[] lb] w fun e w' => e = .returned (.bool (decide (0 <= Lib.idxFunc p true s))) /\ Below w.heap.size w w' := Any.strings_ContainsFunc_grows Tryz.laysGw17 g lb eg p s w hp
namespace YtdolbghhcijonaaGreat
open Go Go.Am Go.RowKit
theorem ent64 : Ent Tryz.prog 40 := zp0 Tryz.func40 rfl (by kernel_rfl)
theorem ent65 : Ent Tryz.prog 41 := zp0 Tryz.func41 rfl (by kernel_rfl)
theorem ent129 : Ent Tryz.prog 129 := zp0 Tryz.func129 rfl (by kernel_rfl)
theorem sorts64 : Sorts Tryz.prog 40 := fun blk off cap zs w hH hb hz => Tryz.slices_Sort_int blk off cap zs w hH hb hz
theorem cpts65 : Cpts Tryz.prog 41 := fun blk off cap zs w hH hz hc => Tryz.slices_Compact_int blk off cap zs w hH hz hc
end YtdolbghhcijonaaGreat
end Go.Proofs
namespace Go.Proofs.YtdolbghhcijonaaGreat
open Go Go.Am
theorem zrx {p : Nat -> Bool} {s : ByteArray} (h : ∀ i, i < s.size -> (s.get! i).toNat < 128 /\ p (s.get! i).toNat = false) : ∀ f pos, Go.Lib.idxFuncFrom p true s f pos = -1
 | 0, _ => rfl
 | f + 1, pos => by
  unfold Go.Lib.idxFuncFrom;split
  ·rename_i hp;obtain ⟨h1, h2⟩ := h pos hp;have e : Utf8.decode s pos = ((s.get! pos).toNat, 1) := by
    unfold Utf8.decode;simp only [y2d];rw [if_pos h1]
   rw [e, if_neg (by show ¬ p (s.get! pos).toNat = true; rw [h2]; exact y21)]
   exact zrx h f _
  ·rfl
theorem prB_lt {b : Nat} (h : prB b = true) : b <= 122 := by
 unfold prB smB grB at h;simp at h;omega
theorem zq7 (s : List UInt8) (hs : ∀ b ∈ s, prB b.toNat = true) : PF Tryz.prog 129 [.str s, .fn 130 [] []] (.bool false) := by
 refine ⟨ent129, fun ro w us hg hr => ?_⟩;have h0 := hr.2 0 (.str s) rfl;have h1 := hr.2 1 (.fn 130 [] []) rfl;have hsz : us.size = 2 := hr.1;obtain ⟨a, b, rfl⟩ : ∃ a b, us = #[a, b] := by
  obtain ⟨l⟩ := us
  match l, hsz with
  | [a, b], _ => exact ⟨a, b, rfl⟩
 have h0 : VRel w ro none (.str s) a := h0;have h1 : VRel w ro none (.fn 130 [] []) b := h1;cases h0 with
 | @str _ t =>
 cases h1 with
 | @fn _ _ _ _ fs cs e1 e2 _ _ =>
 have e1 : fs = #[] := Array.size_eq_zero_iff.1 e1;have e2 : cs = #[] := Array.size_eq_zero_iff.1 e2;subst e1 e2;have hp : PredGrows Tryz.prog 130 #[] rnB w := fun W x hx hb => by
  refine ((name130 x hx).2 (fun _ => True) W #[.int .i32 x] (fun _ hx => absurd hx y07) ⟨rfl, fun i v hv => ?_⟩).mono fun e w' ⟨u, e1, e2, e3⟩ => ?_
  ·match i with
   | 0 => simp at hv; subst hv; exact .int
   | i + 1 => simp at hv
  ·cases e3;exact ⟨e1, e2⟩
 have hidx : Go.Lib.idxFunc rnB true t = -1 := zrx (fun i hi => by
  have hm : t.get! i ∈ t.data.toList := by
   have : t.get! i = t.data[i]'hi := by
    show t.data[i]! = _;rw [getElem!_pos t.data i hi]
   rw [this];exact Array.getElem_mem_toList hi
  have hpr := hs _ hm;have hle := prB_lt hpr;refine ⟨by omega, ?_⟩;unfold rnB;rw [Nat.mod_eq_of_lt (by omega), hpr, decide_eq_false (by omega)];rfl) _ _
 refine (Tryz.strings_ContainsFunc_grows 130 #[] (zp0 Tryz.func130 rfl (by kernel_rfl)) rnB t w hp).mono fun e w' ⟨e1, e2⟩ => ⟨_, e1, e2, ?_⟩
 rw [hidx];exact .bool
section
variable {P : Program} {w0 : World} {N0 : Nat} {k : List Fr} {Q : Exit -> AS -> Prop} {pf : Kn} {ios : List Opr} {n nx ck : Nat} {mk : List (Nat × Nat)} {md : Md} {l : List (Nat × AV)} {hp : List (Nat × Nat × AObj)} {kd : EqK}
theorem o_mapget {d : Nat} {kz : IntKind} {z : Int} {ok : Bool} {ma ka : Arg} {id sp : Nat} {es : List (AV × AV)} {kv : AV} {r : Option AV} (hm : zas ma l = some (.mapv id sp)) (hk : zas ka l = some kv) (hl : Am.look id hp = some (sp, .map es)) (hg : zec kd kv es = some r)
  (go : Om P w0 N0 md pf ios (st n ((d, znq ok (.int kz z) r) :: l) hp nx ck mk) k Q) (hx : Ops pf (st n l hp nx ck mk) (.mapget kd (.int kz z) ok ma ka) := by exact trivial) :
  Om P w0 N0 md pf (⟨some d, .mapget kd (.int kz z) ok ma ka, none⟩ :: ios) (st n l hp nx ck mk) k Q := by
 refine zdc ?_ go hx;simp only [iop, zai, hm, hk, AS.mapget, show (st n l hp nx ck mk).heap = hp from rfl, hl, if_true, hg]
 rfl
theorem o_maplen {d : Nat} {ok : Bool} {ma ka : Arg} {id sp : Nat} {es : List (AV × AV)} {kv : AV} (hm : zas ma l = some (.mapv id sp)) (hk : zas ka l = some kv) (hl : Am.look id hp = some (sp, .map es))
  (go : Om P w0 N0 md pf ios (st n ((d, .int .i64 (es.length : Nat)) :: l) hp nx ck mk) k Q) (hx : Ops pf (st n l hp nx ck mk) (.mapget .int .top ok ma ka) := by exact trivial) :
  Om P w0 N0 md pf (⟨some d, .mapget .int .top ok ma ka, none⟩ :: ios) (st n l hp nx ck mk) k Q := by
 refine zdc ?_ go hx;simp only [iop, zai, hm, hk, AS.mapget, show (st n l hp nx ck mk).heap = hp from rfl, hl, if_true]
 rfl
theorem zse {ma ka va : Arg} {id sp : Nat} {es es' : List (AV × AV)} {kv v : AV} (hm : zas ma l = some (.mapv id sp)) (hk : zas ka l = some kv) (hv : zas va l = some v) (hl : Am.look id hp = some (sp, .map es)) (hg : zed kd kv v es = some es')
  (go : Om P w0 N0 md pf ios (st n l (zau id (sp, .map es') hp) nx ck mk) k Q) (hx : Ops pf (st n l hp nx ck mk) (.mapset kd ma ka va) := by exact trivial) :
  Om P w0 N0 md pf (⟨none, .mapset kd ma ka va, none⟩ :: ios) (st n l hp nx ck mk) k Q := by
 refine o_op0 (v := .tup []) ?_ go hx;simp only [iop, zai, hm, hk, hv, AS.mapset, show (st n l hp nx ck mk).heap = hp from rfl, hl, if_true, hg]
 rfl
theorem o_mkmap {d : Nat} (go : Om P w0 N0 md pf ios (st n ((d, .mapv nx ck) :: l) ((nx, ck, .map []) :: hp) (nx + 1) (ck + 1) mk) k Q) (hx : Ops pf (st n l hp nx ck mk) .mkmap := by exact trivial) :
  Om P w0 N0 md pf (⟨some d, .mkmap, none⟩ :: ios) (st n l hp nx ck mk) k Q :=
 zdc rfl go hx
end
def zlk : List (List UInt8) -> Nat -> List (AV × AV)
 | [], _ => []
 | k :: ks, j => (.str k, .int .i64 (j : Nat)) :: zlk ks (j + 1)
theorem zs2 : ∀ (ks : List (List UInt8)) (j : Nat), (zlk ks j).length = ks.length
 | [], _ => rfl
 | k :: ks, j => by rw [zlk, y1e, y1e, zs2 ks]
theorem zvv (k : List UInt8) : ∀ (ks : List (List UInt8)) (j : Nat), k ∉ ks -> zec .str (.str k) (zlk ks j) = some none
 | [], j, _ => rfl
 | x :: ks, j, h => by
  have ih := zvv k ks (j + 1) fun h2 => h (y0c _ h2);have e : ¬ k = x := fun e => h (by rw [e]; exact y01 ..);show (match (some (k == x)) with | some true => some (some (AV.int .i64 (j : Nat))) | some false => zec .str (.str k) (zlk ks (j + 1)) | none => none) = _;rw [show (k == x) = false from beq_eq_false_iff_ne.2 e]
  exact ih
theorem zqx (k : List UInt8) (v : AV) : ∀ (ks : List (List UInt8)) (j : Nat), k ∉ ks -> zed .str (.str k) v (zlk ks j) = some (zlk ks j ++ [(.str k, v)])
 | [], j, _ => rfl
 | x :: ks, j, h => by
  have ih := zqx k v ks (j + 1) fun h2 => h (y0c _ h2);have e : ¬ k = x := fun e => h (by rw [e]; exact y01 ..);show (match (some (k == x)) with | some true => some ((AV.str k, v) :: zlk ks (j + 1)) | some false => (zed .str (.str k) v (zlk ks (j + 1))).map ((AV.str x, AV.int .i64 (j : Nat)) :: ·) | none => none) = _;rw [show (k == x) = false from beq_eq_false_iff_ne.2 e]
  show (zed .str (.str k) v (zlk ks (j + 1))).map _ = _;rw [ih];rfl
theorem zks : ∀ (ks : List (List UInt8)) (j : Nat) (k : List UInt8), zlk (ks ++ [k]) j = zlk ks j ++ [(.str k, .int .i64 ((j + ks.length : Nat) : Int))]
 | [], j, k => rfl
 | x :: ks, j, k => by
  rw [List.cons_append, zlk, zks ks, zlk, y1e, show j + 1 + ks.length = j + (ks.length + 1) by omega]
  rfl
end Go.Proofs.YtdolbghhcijonaaGreat
namespace Go.Proofs.YtdolbghhcijonaaGreat
open Go Go.Am
set_option maxRecDepth 100000
mutual
def zm0 : Ex -> List Int
 | .nd op ix args => (if op = 1 then [ix] else []) ++ znc args
def znc : List Ex -> List Int
 | [] => []
 | y :: ys => zm0 y ++ znc ys
end
theorem zrg {v : Int} {y : Ex} : ∀ {l : List Ex}, y ∈ l -> v ∈ zm0 y -> v ∈ znc l
 | [], h, _ => by cases h
 | z :: zs, h, hv => by
  rw [znc];rcases y0d.1 h with rfl | h
  ·exact y1v _ hv
  ·exact y18 _ (zrg h hv)
structure Capt (M : Nat -> Prop) (fv : AV) (a sa b sb : Nat) (H : HS) : Prop where
 ma : ¬ M a
 mb : ¬ M b
 la : a < H.next
 lb : b < H.next
 ha : Am.look a H.heap = some (sa, .cells [fv])
 hb : Am.look b H.heap = some (sb, .cells [.fn 73 [] [.mptr a sa 0, .mptr b sb 0]])
theorem Capt.keep {M : Nat -> Prop} {fv : AV} {a sa b sb : Nat} {H H' : HS} (h : Capt M fv a sa b sb H) (k : Keep M H H') : Capt M fv a sa b sb H' :=
 ⟨h.ma, h.mb, y0a h.la k.next, y0a h.lb k.next, (k.look _ h.ma h.la).trans h.ha, (k.look _ h.mb h.lb).trans h.hb⟩
def b73_0 : IC := sR [oM 17 (.bin .lss (.t 16) (.t 15))]
 (.seq (.cond (.t 17) (.skip)
 (.exit 0))
 (.seq (.block 1 (sR [oM 18 (.idxs 3 (.t 14) (.t 16)),
  oL 19 3 18,
  oM 5 (.alloc [.int .i64 0, .int .i64 0, .nils]),
  ⟨none, .store 3 (.t 5) (.t 19), none⟩]
 (.region [oN 20 2,
  oL 21 3 5,
  oM 22 (.call (.t 20) [(.t 21)])] none)))
 (.region [oM 23 (.bin .add (.t 16) (cI 1)),
  oT 16 23] none)))
-- pneumatic/control.each$1
def ic73 : IC := sR [oM 3 (.box (.t 0))]
 (.seq (sR [oF 6 0 3,
  oN 7 6,
  oM 8 (.bin .eql (.t 7) (cI 1))]
 (.cond (.t 8) (.region [oN 9 1,
  oF 10 1 3,
  oN 11 10,
  oM 12 (.call (.t 9) [(.t 11)])] none)
 (.skip)))
 (sR [oF 13 2 3,
  oN 14 13,
  oM 15 (.len false (.t 14)),
  oM 16 (.mov (cI 0))]
 (.block 0 (.loop b73_0))))
theorem fn73 : env0.fn 73 = some ⟨24, ic73, []⟩ := by kernel_rfl
section
variable {σ : Type} {M : Nat -> Prop} {I : σ -> HS -> Prop} {step : σ -> Int -> σ} {ok : Int -> Prop}
set_option maxHeartbeats 4000000 in
set_option maxRecDepth 100000 in
theorem visit73 {w0 : World} {N0 : Nat} {g : FuncId} {fi ca : List AV} {a sa b sb : Nat} (hloc : Local M I) (hy : ∀ s line H, ok line -> I s H -> CT Tryz.prog w0 N0 (.fn g fi ca) [.int .i64 line] H (fun _ H' => Keep M H H' /\ I (step s line) H')) :
  ∀ (q : Nat) (x : Ex) (H : HS) (s : σ), SizeOf.sizeOf x <= q -> Slim x -> (∀ v ∈ zm0 x, ok v) -> I s H -> Capt M (.fn g fi ca) a sa b sb H ->
   FT Tryz.prog w0 N0 73 [.agg (cX x), .mptr a sa 0, .mptr b sb 0] H (fun _ H' => Keep M H H' /\ I ((zm0 x).foldl step s) H') := by
 intro q
 induction q with
 | zero => intro x H s hq; cases x; simp at hq
 | succ q ih =>
 intro x H s hq hw hok hI hC;obtain ⟨op, ix, args⟩ := x;obtain ⟨hlen, hsl⟩ : args.length < 9223372036854775808 /\ ∀ y ∈ args, Slim y := by cases hw with | nd h k => exact ⟨h, k⟩
 refine zbr env0_ok fn73 [(0, .agg (cX (.nd op ix args))), (1, .mptr a sa 0), (2, .mptr b sb 0)] (y04 rfl) rfl ?_;unfold ic73;have rest : ∀ (H1 : HS) (s1 : σ) (l : List (Nat × AV)), Keep M H H1 -> I s1 H1 -> Am.look H.next H1.heap = some (H.clk, .cells (cX (.nd op ix args))) -> H.next < H1.next -> (zm0 (.nd op ix args)).foldl step s = (znc args).foldl step s1 -> zac 2 l = some (.mptr b sb 0) -> zac 3 l = some (.mptr H.next H.clk 0) ->
   Zm Tryz.prog w0 N0 (some none) (sR [oF 13 2 3, oN 14 13, oM 15 (.len false (.t 14)), oM 16 (.mov (cI 0))] (.block 0 (.loop b73_0)))
    (st 24 l H1.heap H1.next H1.clk) [] (fun e S' => (e = .normal \/ e = .ret) /\ ∃ v, S'.leave.res [] = some v /\ (Keep M H S'.leave.hs /\ I ((zm0 (.nd op ix args)).foldl step s) S'.leave.hs)) := by
  intro H1 s1 l hK hI1 hlk hnx hfold l2 l3;have hokL : ∀ v ∈ znc args, ok v := fun v hv => hok v (by rw [zm0]; exact y18 _ hv);refine zsr rfl (zah l3 ?_);refine zaf rfl hlk hnx rfl ?_;refine zcb ?_;refine zav (fun mm S => ∃ (i : Nat) (s' : σ) (H' : HS), mm = args.length - i /\ i <= args.length /\ (znc args).foldl step s1 = (znc (args.drop i)).foldl step s' /\ I s' H' /\ Keep M H H' /\
    S = st 24 [(2, .mptr b sb 0), (14, .vs (cXs args)), (15, .int .i64 (cXs args).length), (16, .int .i64 (i : Nat))] H'.heap H'.next H'.clk) args.length
   (zb2 (.cons l2 (.cons rfl (.cons rfl (.cons rfl .nil))))) ⟨0, s1, H1, rfl, y0q _, rfl, hI1, hK, rfl⟩ ?_
  rintro mm S ⟨i, s', H', rfl, hi, hwl, hI', hK', rfl⟩;have hC' := hC.keep hK';unfold b73_0;refine zdo ?_;refine za3 rfl rfl rfl (fun h1 => ?_) fun h1 => ?_
  ·have hlt : i < args.length := by
    have := of_decide_eq_true h1;rw [zam] at this;omega
   have hge := zej hlt;have hmem : args[i] ∈ args := y13 hlt;rw [y0t hlt, znc, List.foldl_append] at hwl;have hoky : ∀ v ∈ zm0 args[i], ok v := fun v hv => hokL v (zrg hmem hv);generalize args[i] = y at hwl hge hmem hoky;have w1 := za9 i (by omega);obtain ⟨yo, yi, ya⟩ := y;refine zbb ?_;refine zaj rfl rfl rfl rfl za4 rfl rfl ?_;rw [zbz];refine zdo ?_;refine zaf rfl ((za5 hC'.lb).trans hC'.hb) (y1c hC'.lb) rfl ?_;refine zb9 rfl za4 (y09 _) rfl rfl ?_;refine zjn _ rfl rfl (zk8 (ih (.nd yo yi ya) ⟨_, _, _⟩ s' (by have := zh3 (op := op) (ix := ix) hmem; omega) (hsl _ hmem) hoky (hloc.new hI' _ _) (hC'.keep (Keep.new M H' _)))) (fun _ _ _ _ hm => absurd hm y07) fun v H3 hF3 => ?_
   obtain ⟨hK3, hI3⟩ := hF3;refine zbd ?_;rw [w1];exact zad (show args.length - (i + 1) < args.length - i by omega) skp ⟨i + 1, _, H3, rfl, hlt, hwl, hI3, hK'.trans ((Keep.new M H' _).trans hK3), rfl⟩
  ·have hi2 : i = args.length := by
    have := of_decide_eq_false h1;rw [zam] at this;omega
   rw [hi2, y1m, znc] at hwl;refine zbb ?_;refine zbp ?_;repeat (first | refine zer ?_)
   exact zab ⟨.inl rfl, _, rfl, hK', by rw [hfold, hwl]; exact hI'⟩
 refine zbd ?_;refine zaf rfl za4 (y09 _) rfl ?_;have hK0 : Keep M H ⟨(H.next, H.clk, .cells (cX (.nd op ix args))) :: H.heap, H.next + 1, H.clk + 1⟩ := Keep.new M H (H.clk, _);have hC0 := hC.keep hK0;refine za3 rfl rfl rfl (fun h1 => ?_) fun h1 => ?_
 ·have h1 : op = 1 := by simpa using h1
  subst h1;refine zdo ?_;refine zaf rfl hC0.ha hC0.la rfl ?_;repeat (first | refine zah rfl ?_)
  refine zaf rfl za4 (y09 _) rfl ?_;refine zjn _ rfl rfl (hy s ix ⟨_, _, _⟩ (hok ix (by rw [zm0, if_pos rfl]; exact y1v _ (y0j.2 rfl))) (hloc.new hI _ _)) (fun _ _ _ _ hm => absurd hm y07) fun v H2 hF => ?_;obtain ⟨hK2, hI2⟩ := hF;refine onu ?_;exact rest H2 _ _ (hK0.trans hK2) hI2 ((hK2.look H.next (fun hm => y23 _ (hloc.lt s H hI _ hm)) (y09 _)).trans za4) (y0a (y09 _) hK2.next) (by rw [zm0, if_pos rfl]; rfl) rfl rfl
 ·have h1 : ¬ op = 1 := by simpa using h1
  refine onu (zfw rfl (zbg (zaw ?_)));exact rest ⟨_, _, _⟩ s _ hK0 (hloc.new hI _ _) za4 (y09 _) (by rw [zm0, if_neg h1]; rfl) rfl rfl
-- pneumatic/control.each
def ic49 : IC := sR [oM 2 (.box (.t 0)),
  oM 3 (.box (.t 1))]
 (sR [oM 4 (.alloc [.nilf])]
 (sR [oM 5 (.mkfn 73 [] [(.t 3), (.t 4)]),
  ⟨none, .store 1 (.t 4) (.t 5), none⟩]
 (.region [oN 6 4,
  oL 7 3 2,
  oM 8 (.call (.t 6) [(.t 7)])] none)))
theorem fn49 : env0.fn 49 = some ⟨9, ic49, []⟩ := by kernel_rfl
set_option maxHeartbeats 4000000 in
set_option maxRecDepth 100000 in
theorem each49 {w0 : World} {N0 : Nat} {g : FuncId} {fi ca : List AV} (hloc : Local M I) (hy : ∀ s line H, ok line -> I s H -> CT Tryz.prog w0 N0 (.fn g fi ca) [.int .i64 line] H (fun _ H' => Keep M H H' /\ I (step s line) H')) (x : Ex) (hx : Slim x) (hok : ∀ v ∈ zm0 x, ok v) (H : HS) (s : σ) (hI : I s H) :
  FT Tryz.prog w0 N0 49 [.agg (cX x), .fn g fi ca] H (fun _ H' => Keep M H H' /\ I ((zm0 x).foldl step s) H') := by
 obtain ⟨op, ix, args⟩ := x;refine zbr env0_ok fn49 [(0, .agg (cX (.nd op ix args))), (1, .fn g fi ca)] (y04 rfl) rfl ?_;unfold ic49;have hlt := hloc.lt s H hI;refine zbf ?_;refine zaj rfl rfl rfl rfl za4 rfl rfl ?_;rw [zbz];refine zdo ?_;refine zaf rfl za4 (y09 _) rfl ?_;refine zb9 rfl ((za5 (y1c (y09 _))).trans ((za5 (y09 _)).trans za4)) (by omega) rfl rfl ?_;have hk0 : Keep M H ⟨(H.next + 1 + 1, H.clk + 1 + 1, .cells (setAt 0 [.nilf] [.fn 73 [] [.mptr (H.next + 1) (H.clk + 1) 0, .mptr (H.next + 1 + 1) (H.clk + 1 + 1) 0]])) :: (H.next + 1, H.clk + 1, .cells [.fn g fi ca]) :: (H.next, H.clk, .cells (cX (.nd op ix args))) :: H.heap, H.next + 1 + 1 + 1, H.clk + 1 + 1 + 1⟩ :=
  ((Keep.new M H (H.clk, .cells (cX (.nd op ix args)))).trans (Keep.new M ⟨(H.next, H.clk, .cells (cX (.nd op ix args))) :: H.heap, H.next + 1, H.clk + 1⟩ (H.clk + 1, .cells [.fn g fi ca]))).trans (Keep.new M ⟨(H.next + 1, H.clk + 1, .cells [.fn g fi ca]) :: (H.next, H.clk, .cells (cX (.nd op ix args))) :: H.heap, H.next + 1 + 1, H.clk + 1 + 1⟩ (H.clk + 1 + 1, _))
 refine zjn _ rfl rfl (zk8 (visit73 hloc hy (SizeOf.sizeOf (Ex.nd op ix args)) (.nd op ix args) ⟨_, _, _⟩ s (y08 _) hx hok (hloc.of s H ⟨_, _, _⟩ hI hk0.next fun i hm => (za5 (by have := hlt i hm; omega)).trans ((za5 (by have := hlt i hm; omega)).trans (za5 (hlt i hm))))
  ⟨fun hm => by have := hlt _ hm; omega, fun hm => by have := hlt _ hm; omega, by show H.next + 1 < H.next + 1 + 1 + 1; omega, by show H.next + 1 + 1 < H.next + 1 + 1 + 1; omega, (za5 (y09 _)).trans za4, za4⟩)) (fun _ _ _ _ hm => absurd hm y07) fun v H2 hF => ?_
 obtain ⟨hK, hF⟩ := hF;refine zb1 ?_;exact zab ⟨.inl rfl, _, rfl, hk0.trans hK, hF⟩
end
end Go.Proofs.YtdolbghhcijonaaGreat
namespace Go.Proofs.YtdolbghhcijonaaGreat
open Go Go.Am
set_option maxRecDepth 100000
def ixP (P : Int -> Bool) : List Int -> Nat -> Int
 | [], _ => -1
 | z :: l, j => if P z = true then (j : Nat) else ixP P l (j + 1)
theorem zw4 (P : Int -> Bool) : ∀ (l : List Int) (j : Nat), decide (ixP P l j >= 0) = l.any P
 | [], j => rfl
 | z :: l, j => by
  rw [ixP, List.any_cons];split
  ·rename_i h;rw [h, decide_eq_true (by omega)];rfl
  ·rename_i h;rw [zw4 P l (j + 1)];simp [h]
def b114_0 : IC := sR [oM 9 (.bin .lss (.t 8) (.t 7))]
 (.seq (.cond (.t 9) (.skip)
 (.exit 0))
 (.seq (.block 1 (sR [oT 10 8,
  oT 5 10]
 (sR [oT 11 1,
  oT 12 0,
  oT 13 5,
  oM 14 (.idxs 1 (.t 12) (.t 13)),
  oN 15 14,
  oM 16 (.call (.t 11) [(.t 15)])]
 (.cond (.t 16) (sR [oT 17 5,
  oT 4 17]
 (.ret))
 (.skip)))))
 (.region [oM 18 (.bin .add (.t 8) (cI 1)),
  oT 8 18] none)))
-- slices.IndexFunc[[]int,int]
def ic114 : IC := sR [oM 4 (.mov (cI 0))]
 (.seq (sR [oT 6 0,
  oM 7 (.len false (.t 6)),
  oM 8 (.mov (cI 0))]
 (.block 0 (.loop b114_0)))
 (sR [oM 4 (.mov (cI (-1)))]
 (.ret)))
theorem fn114 : env0.fn 114 = some ⟨19, ic114, [.t 4]⟩ := by kernel_rfl
set_option maxHeartbeats 2000000 in
set_option maxRecDepth 100000 in
theorem index114 {P : Int -> Bool} {g : FuncId} {fi ca : List AV} (hP : ∀ z, PF Tryz.prog g (fi ++ [.int .i64 z] ++ ca) (.bool (P z))) (hv : ∀ S : AS, fi.map (S.view VD) = fi /\ ca.map (S.view VD) = ca) (l : List Int) (hl : l.length <= 1000000) : PF Tryz.prog 114 [vsI l, .fn g fi ca] (.int .i64 (ixP P l 0)) := by
 have hlen := zev l;refine za6 env0_ok fn114 [(0, vsI l), (1, .fn g fi ca)] (y04 rfl) rfl fun w0 N0 => ?_;unfold ic114 vsI;refine zcb ?_;refine zav (fun mm S => ∃ i, mm = l.length - i /\ i <= l.length /\ ixP P l 0 = ixP P (l.drop i) i /\ S = st 19 [(0, vsI l), (1, .fn g fi ca), (7, .int .i64 (l.length : Nat)), (8, .int .i64 (i : Nat))] [] 0 0) l.length
  (zb2 (.cons rfl (.cons rfl (.cons (by rw [<- hlen]; rfl) (.cons rfl .nil))))) ⟨0, rfl, y0q _, rfl, rfl⟩ ?_
 rintro mm S ⟨i, rfl, hi, hx, rfl⟩;unfold b114_0 vsI;refine zdo ?_;refine za3 rfl rfl rfl (fun h3 => ?_) fun h3 => ?_
 ·have hlt : i < l.length := y1r.1 (of_decide_eq_true h3);have hge := zib hlt;have e1 : zA l i = l[i] := by unfold zA; rw [y0k, y0e hlt]; rfl
  rw [y0t hlt, ixP, <- e1] at hx;have w1 := za9 i (by omega);have p := hP (zA l i);generalize zA l i = z at *;refine zbd ?_;refine zd5 rfl rfl (by rw [y11, y11, (hv _).1, (hv _).2]; rfl) p (fun _ => rfl) ?_;cases hp : P z with
  | true =>
   rw [hp, if_pos rfl] at hx;refine zbd ?_;exact zab ⟨.inr rfl, _, rfl, by rw [hx]; rfl⟩
  | false =>
   rw [hp, if_neg y21] at hx;refine zbd ?_;rw [w1];exact zad (show l.length - (i + 1) < l.length - i by omega) skp ⟨i + 1, rfl, hlt, hx, rfl⟩
 ·have hie : i = l.length := by
   have h4 : ¬ ((i : Nat) : Int) < (l.length : Nat) := of_decide_eq_false h3;omega
  rw [hie, y1m, ixP] at hx;rw [hx];refine zbb ?_;refine zbp ?_;refine zbb ?_;exact uE
-- slices.ContainsFunc[[]int,int]
def ic84 : IC := sR [oM 4 (.mov (.c (.bool false)))]
 (sR [oT 5 0,
  oT 6 1,
  oM 7 (.call (.c (.fn 114 [] [])) [(.t 5), (.t 6)]),
  oM 8 (.bin .geq (.t 7) (cI 0)),
  oT 4 8]
 (.ret))
theorem fn84 : env0.fn 84 = some ⟨9, ic84, [.t 4]⟩ := by kernel_rfl
set_option maxRecDepth 100000 in
theorem zii {P : Int -> Bool} {g : FuncId} {fi ca : List AV} (hP : ∀ z, PF Tryz.prog g (fi ++ [.int .i64 z] ++ ca) (.bool (P z))) (hv : ∀ S : AS, fi.map (S.view VD) = fi /\ ca.map (S.view VD) = ca) (hv3 : ∀ S : AS, S.view VD (.fn g fi ca) = .fn g fi ca) (l : List Int) (hl : l.length <= 1000000) : PF Tryz.prog 84 [vsI l, .fn g fi ca] (.bool (l.any P)) := by
 have p := index114 hP hv l hl;have hany := zw4 P l 0;refine za6 env0_ok fn84 [(0, vsI l), (1, .fn g fi ca)] (y04 rfl) rfl fun w0 N0 => ?_;unfold ic84 vsI at *;generalize ixP P l 0 = r at *;refine zdo ?_;refine zak rfl (by show [_, AS.view _ VD (.fn g fi ca)] = _; rw [hv3]; rfl) p (fun _ => rfl) ?_
 rw [<- hany];refine za3 rfl rfl rfl (fun h => ?_) fun h => ?_;all_goals
  have h : decide (r >= 0) = _ := h;rw [h];refine zdo ?_;exact uE
def outB (c : Ctl) (z : Int) : Bool := decide (z < 0) || decide (z >= (lnC c : Int))
-- pneumatic/control.check$1
def ic111 : IC := sR [oM 3 (.mov (.c (.bool false)))]
 (sR [oT 4 0,
  oM 5 (.bin .lss (.t 4) (cI 0)),
  oT 6 5,
  ⟨(some 7), .mov (.t 0), some (6, false)⟩,
  ⟨(some 8), .load (some 5) (.t 1), some (6, false)⟩,
  ⟨(some 9), .call (.c (.fn 46 [] [])) [(.t 8)], some (6, false)⟩,
  ⟨(some 10), .bin .geq (.t 7) (.t 9), some (6, false)⟩,
  oM 11 (.pick (.t 6) (.c (.bool true)) (.t 10)),
  oT 3 11]
 (.ret))
theorem fn111 : env0.fn 111 = some ⟨12, ic111, [.t 3]⟩ := by kernel_rfl
set_option maxRecDepth 100000 in
theorem check111 {c : Ctl} (h : Sm c) (z : Int) : PF Tryz.prog 111 [.int .i64 z, .vptr (cC c)] (.bool (outB c z)) := by
 have p := zq8 h;refine za6 env0_ok fn111 [(0, .int .i64 z), (1, .vptr (cC c))] (y04 rfl) rfl fun w0 N0 => ?_;unfold ic111 outB;unfold cC at *;refine zdo ?_;refine za3 rfl rfl rfl (fun h => ?_) fun h => ?_
 ·rw [show decide (z < 0) = true from h]
  refine zcb ?_;exact uE
 ·rw [show decide (z < 0) = false from h]
  refine zbd ?_;refine za3 rfl rfl rfl (fun h => ?_) fun h => ?_;all_goals
   have h : decide (z >= (lnC c : Int)) = _ := h;rw [h];refine zlo ?_;exact uE
-- (*pneumatic/control.checker).memory
def ic105 : IC := sR [oM 4 (.mov (cI 0))]
 (.seq (.seq (.region [oT 6 0,
  oM 7 (.nilchk (.t 6)),
  oF 8 0 7,
  oF 9 2 8,
  oN 10 9,
  oT 11 1,
  oM 12 (.idxs 10 (.t 10) (.t 11)),
  oF 13 5 12,
  oL 14 3 13,
  oT 15 0,
  oM 16 (.nilchk (.t 15)),
  oF 17 0 16,
  oL 18 5 17,
  oM 19 (.call (.c (.fn 46 [] [])) [(.t 18)]),
  oM 20 (.call (.c (.fn 85 [] [])) [(.t 14), (.t 19)]),
  oT 5 20] (some [[], [0], [1], [2], [3], [], [4, 5], [6], [7], [], [9], [10], [11], [12], [8, 13, 13], [14, 14, 0, 1, 2, 3, 4, 5, 6, 7, 8, 9, 10, 11, 12, 13, 14]]))
 (sR [oT 21 5,
  oM 22 (.bin .neq (.t 21) (cI 0))]
 (.cond (.t 22) (sR [oT 23 5,
  oT 4 23]
 (.ret))
 (.skip))))
 (.seq (sR [oT 24 0,
  oM 25 (.nilchk (.t 24)),
  oF 26 0 25,
  oF 27 2 26,
  oN 28 27,
  oT 29 1,
  oM 30 (.idxs 10 (.t 28) (.t 29)),
  oF 31 8 30,
  oN 32 31,
  oM 33 (.bin .neq (.t 32) (cI 0))]
 (.cond (.t 33) (sR [oM 4 (.mov (cI 3))]
 (.ret))
 (.skip)))
 (sR [oM 4 (.mov (cI 0))]
 (.ret))))
theorem fn105 : env0.fn 105 = some ⟨34, ic105, [.t 4]⟩ := by kernel_rfl
set_option maxHeartbeats 2000000 in
set_option maxRecDepth 100000 in
theorem zwc {c : Ctl} (h : Ct c) {i : Nat} (hi : i < c.sg.length) (hk : (sgA c.sg i).kd = 1) (K : List AV) : PF Tryz.prog 105 [.vptr (cC c ++ K), .int .i64 (i : Nat)] (.int .i64 0) := by
 have p46 := zq8 h.toSm;have hge := zdn hi;have p85 := zq3 (sgA c.sg i).off (h.x1 _ (zi0 hi)).2 (lnC c);rw [zn8, h.off i hi hk, zif] at p85;have hd := h.d0 i hi (by rw [hk]; decide);refine za6 env0_ok fn105 [(0, .vptr (cC c ++ K)), (1, .int .i64 (i : Nat))] (y04 rfl) rfl fun w0 N0 => ?_;unfold ic105;unfold cC vsG at *;generalize sgA c.sg i = s at *;obtain ⟨nm, kd, on, off, dl, ini⟩ := s;dsimp only at *;subst hd;refine zdo ?_;refine zc2 env0_ok _ (hL2 p46 p85) (fun g => Nat.beq g 46 || Nat.beq g 85) rfl rfl rfl ?_;refine zbf ?_;refine zab ?_;exact ⟨.inr rfl, _, rfl, rfl⟩
-- (*pneumatic/control.checker).timer
def ic106 : IC := sR [oM 4 (.mov (cI 0))]
 (.seq (sR [oT 6 0,
  oM 7 (.nilchk (.t 6)),
  oF 8 0 7,
  oF 9 2 8,
  oN 10 9,
  oT 11 1,
  oM 12 (.idxs 10 (.t 10) (.t 11)),
  oL 13 10 12,
  oM 5 (.alloc [.str [], .int .i64 0, .int .i64 0, .int .i64 0, .nils, .int .i64 0, .int .i64 0, .nils, .int .i64 0, .bool false]),
  ⟨none, .store 10 (.t 5) (.t 13), none⟩]
 (.block 0 (sR [oF 15 8 5,
  oN 16 15,
  oM 17 (.bin .lss (.t 16) (cI 1)),
  oT 18 17,
  ⟨(some 19), .faddr 8 (.t 5), some (18, false)⟩,
  ⟨(some 20), .load none (.t 19), some (18, false)⟩,
  ⟨(some 21), .bin .gtr (.t 20) (cI 1000000), some (18, false)⟩,
  oM 22 (.pick (.t 18) (.c (.bool true)) (.t 21)),
  oT 14 22]
 (.cond (.t 14) (sR [oM 4 (.mov (cI 2))]
 (.ret))
 (sR [oF 24 5 5,
  oL 25 3 24,
  oM 26 (.call (.c (.fn 128 [] [])) [(.t 25)]),
  oM 27 (.un .not (.t 26)),
  oT 28 27,
  ⟨(some 29), .faddr 9 (.t 5), some (28, false)⟩,
  ⟨(some 30), .load none (.t 29), some (28, false)⟩,
  oM 31 (.pick (.t 28) (.c (.bool true)) (.t 30)),
  oT 23 31]
 (.cond (.t 23) (sR [oM 4 (.mov (cI 3))]
 (.ret))
 (.skip)))))))
 (sR [oM 4 (.mov (cI 0))]
 (.ret)))
theorem fn106 : env0.fn 106 = some ⟨32, ic106, [.t 4]⟩ := by kernel_rfl
set_option maxHeartbeats 2000000 in
set_option maxRecDepth 100000 in
theorem timer106 {c : Ctl} (h : Ct c) {i : Nat} (hi : i < c.sg.length) (hk : (sgA c.sg i).kd = 2) (K : List AV) : PF Tryz.prog 106 [.vptr (cC c ++ K), .int .i64 (i : Nat)] (.int .i64 0) := by
 have hge := zdn hi;have hd := h.tm i hi hk;have hz := h.zf i hi (by rw [hk]; decide);have p128 := zxs (sgA c.sg i).off;rw [hz.1] at p128;have hini := hz.2;refine za6 env0_ok fn106 [(0, .vptr (cC c ++ K)), (1, .int .i64 (i : Nat))] (y04 rfl) rfl fun w0 N0 => ?_;unfold ic106;unfold cC vsG at *;generalize sgA c.sg i = s at *;obtain ⟨hd1, hd2⟩ := hd;repeat (first | refine zb3 ?_ | refine za8 rfl ?_ | refine zb1 ?_ | refine zaw ?_ | refine zba ?_ | refine zfw rfl ?_ | refine zic rfl ?_ | refine zan rfl ?_ | refine zb0 rfl rfl ?_ | refine zb6 rfl rfl rfl rfl ?_ | refine zaj rfl rfl rfl rfl rfl rfl rfl ?_ | refine zah rfl ?_ | refine zbo rfl rfl rfl ?_ | refine zc1 ?_ | refine zbl rfl rfl ?_ | refine zu0 rfl rfl ?_ | refine zc8 rfl rfl (by omega) (by assumption) rfl ?_ | refine zky rfl ?_ | refine zak rfl rfl (by assumption) noC ?_ | refine za3 rfl rfl rfl (fun h => absurd (of_decide_eq_true h) (by omega)) fun _ => ?_)
 rw [hini];refine zbd ?_;exact uE
end Go.Proofs.YtdolbghhcijonaaGreat
namespace Go.Proofs.YtdolbghhcijonaaGreat
open Go Go.Am
theorem zlc {i : Nat} {D : List Nat} (hi : i ∉ D) : ∀ l : List Nat, l.Nodup -> i ∈ l -> (l.filter fun j => !D.contains j).length = (l.filter fun j => !(i :: D).contains j).length + 1
 | [], _, h => by cases h
 | j :: l, hn, h => by
  obtain ⟨h1, h2⟩ := List.nodup_cons.1 hn;rw [List.filter_cons, List.filter_cons];by_cases e : j = i
  ·subst e;have e1 : (!D.contains j) = true := by simpa using hi
   have e2 : (!(j :: D).contains j) = false := by simp
   rw [if_pos e1, if_neg (by rw [e2]; exact y21), y1e];congr 2;refine List.filter_congr fun x hx => ?_;have hx2 : x ≠ j := fun e => h1 (e ▸ hx);simp [hx2]
  ·have hm : i ∈ l := (y0d.1 h).resolve_left fun e2 => e e2.symm;have ih := zlc hi l h2 hm;have e3 : (!(i :: D).contains j) = (!D.contains j) := by simp [e]
   rw [e3];split
   ·rw [y1e, y1e, ih]
   ·exact ih
theorem zu1 {p : Nat -> Prop} : ∀ {l : List Nat}, (∀ i ∈ l, p i) -> AllL p l
 | [], _ => trivial
 | i :: _, h => ⟨h i (y01 ..), zu1 fun j hj => h j (y0c _ hj)⟩
theorem ztl {pres : List (List Nat)} {N : Nat} {D : List Nat} (hp : ∀ i < N, ∀ p ∈ pres.getD i [], p < i) (h : ze6 pres N D = []) : ∀ i < N, i ∈ D := by
 intro i
 induction i using Nat.strongRecOn with
 | ind i ih =>
  intro hi;refine y1f fun hni => ?_;have : i ∈ ze6 pres N D := by
   unfold ze6;rw [y22];refine ⟨y0n.2 hi, ?_⟩;rw [y0g, y0h];refine ⟨by simpa using hni, fun p hpp => ?_⟩;have := hp i hi p hpp;exact List.contains_iff_mem.2 (ih p this (by omega))
  rw [h] at this;cases this
theorem zn2 {P : Program} {w0 : World} {N0 : Nat} {rd : Option (Nat × Nat)} {ios : List Opr} {pres : List (List Nat)} {K : AS -> Prop} (hp : ∀ i < ios.length, ∀ p ∈ pres.getD i [], p < i) (I : List Nat -> AS -> Prop)
  (step : ∀ n D S i, I D S -> i < ios.length -> i ∉ D -> (∀ p ∈ pres.getD i [], p ∈ D) -> (∀ S', I (i :: D) S' -> AnyF P w0 N0 rd ios pres n (i :: D) S' K) -> StF P w0 N0 rd ios pres n D S K i)
  (fin : ∀ D S, I D S -> (∀ i < ios.length, i ∈ D) -> K S) : ∀ (n : Nat) (D : List Nat) (S : AS), I D S -> ((List.range ios.length).filter fun i => !D.contains i).length = n -> AnyF P w0 N0 rd ios pres n D S K
 | 0, D, S, hI, hn => by
  have h0 := y0l.1 hn;rw [List.filter_eq_nil_iff] at h0;have hall : ∀ i < ios.length, i ∈ D := fun i hi => by
   have := h0 i (y0n.2 hi);simpa using this
  refine ⟨?_, fin D S hI hall⟩;unfold ze6;rw [List.filter_eq_nil_iff];intro i hi;have := List.contains_iff_mem.2 (hall i (y0n.1 hi));rw [this];simp
 | n + 1, D, S, hI, hn => by
  refine AnyF.succ (fun h => ?_) (zu1 fun i hi => ?_)
  ·have hall := ztl hp h;rw [List.filter_eq_nil_iff.2 fun i hi => by
    have := List.contains_iff_mem.2 (hall i (y0n.1 hi));rw [this];simp] at hn
   cases hn
  ·unfold ze6 at hi;rw [y22, y0g, y0h] at hi;obtain ⟨h1, h2, h3⟩ := hi;have h2 : i ∉ D := by simpa using h2
   refine step n D S i hI (y0n.1 h1) h2 (fun p hp => List.contains_iff_mem.1 (h3 p hp)) fun S' hI' => zn2 hp I step fin n (i :: D) S' hI' ?_;have := zlc h2 (List.range ios.length) List.nodup_range h1;omega
theorem zga (d : Nat) (v : AV) (l : List (Nat × AV)) : zac d ((d, v) :: l) = some v := by
 rw [zac, y2i]
theorem zal {d t : Nat} (h : d ≠ t) (v : AV) (l : List (Nat × AV)) : zac t ((d, v) :: l) = zac t l := by
 rw [zac];cases hb : Nat.beq d t with
 | true => exact absurd (y15 hb) h
 | false => rfl
structure Reg where
 m : Nat
 dst : Nat -> Nat
 qv : Nat -> Option ((Nat -> Nat) -> (Nat -> Nat) -> AV)
 lw : Nat -> Nat -> Nat -> AV
 lc : Nat -> List AV
structure Kr (R : Reg) (base : List (Nat × AV)) (b : Nat) (old : Nat -> Option (Nat × AObj)) (D : List Nat) (l : List (Nat × AV)) (hp : List (Nat × Nat × AObj)) (nx : Nat) (nm sm : Nat -> Nat) : Prop where
 bs : ∀ t v, (t, v) ∈ base -> zac t l = some v
 bx : b <= nx
 ol : ∀ j, j < b -> Am.look j hp = old j
 q : ∀ i f, i ∈ D -> R.qv i = some f -> zac (R.dst i) l = some (f nm sm)
 lv : ∀ i, i ∈ D -> R.qv i = none -> zac (R.dst i) l = some (R.lw i (nm i) (sm i))
 lh : ∀ i, i ∈ D -> R.qv i = none -> Am.look (nm i) hp = some (sm i, .cells (R.lc i)) /\ b <= nm i /\ nm i < nx
 ij : ∀ i j, i ∈ D -> j ∈ D -> R.qv i = none -> R.qv j = none -> nm i = nm j -> i = j
def updN (f : Nat -> Nat) (i x : Nat) : Nat -> Nat := fun j => if j = i then x else f j
theorem zj0 (f : Nat -> Nat) (i x : Nat) : updN f i x i = x := if_pos rfl
theorem zdu {f : Nat -> Nat} {i x j : Nat} (h : j ≠ i) : updN f i x j = f j := if_neg h
theorem any_reg {P : Program} {w0 : World} {N0 : Nat} {rd : Option (Nat × Nat)} {ios : List Opr} {pres : List (List Nat)} {K : AS -> Prop} {n nx0 ck0 : Nat} {l0 : List (Nat × AV)} {hp0 : List (Nat × Nat × AObj)} (R : Reg) (base : List (Nat × AV))
  (Z : Nat -> AS -> Prop) (hm : R.m < ios.length) (hp : ∀ i < ios.length, ∀ p ∈ pres.getD i [], p < i) (hlast : ∀ i, R.m <= i -> i < ios.length -> ∀ p < i, p ∈ pres.getD i [])
  (hdst : ∀ i < R.m, ∀ j < R.m, R.dst i = R.dst j -> i = j) (hbase : ∀ t v, (t, v) ∈ base -> ∀ i < R.m, R.dst i ≠ t) (hb0 : ∀ t v, (t, v) ∈ base -> zac t l0 = some v)
  (hq : ∀ i f, R.qv i = some f -> ∀ nm sm nm' sm' : Nat -> Nat, (∀ p ∈ pres.getD i [], nm p = nm' p /\ sm p = sm' p) -> f nm sm = f nm' sm')
  (hop : ∀ i < R.m, ∀ n1 D l hp nx ck nm sm, Kr R base nx0 (fun j => Am.look j hp0) D l hp nx nm sm -> (∀ p ∈ pres.getD i [], p ∈ D) ->
   match R.qv i with
   | some f => AnyF P w0 N0 rd ios pres n1 (i :: D) (st n ((R.dst i, f nm sm) :: l) hp nx ck) K -> StF P w0 N0 rd ios pres n1 D (st n l hp nx ck) K i
   | none => AnyF P w0 N0 rd ios pres n1 (i :: D) (st n ((R.dst i, R.lw i nx ck) :: l) ((nx, ck, .cells (R.lc i)) :: hp) (nx + 1) (ck + 1)) K -> StF P w0 N0 rd ios pres n1 D (st n l hp nx ck) K i)
  (hZ : ∀ l hp nx ck nm sm, Kr R base nx0 (fun j => Am.look j hp0) (List.range R.m) l hp nx nm sm -> Z R.m (st n l hp nx ck))
  (hlops : ∀ j, R.m <= j -> j < ios.length -> ∀ S, Z j S -> ∀ n1 D, (∀ S', Z (j + 1) S' -> AnyF P w0 N0 rd ios pres n1 (j :: D) S' K) -> StF P w0 N0 rd ios pres n1 D S K j)
  (hfin : ∀ S, Z ios.length S -> K S) :
  AnyF P w0 N0 rd ios pres ios.length [] (st n l0 hp0 nx0 ck0) K := by
 refine zn2 hp (fun D S => (∀ i ∈ D, i < R.m) /\ (∀ j ∈ D, ∀ p ∈ pres.getD j [], p ∈ D) /\ (∃ l hp nx ck nm sm, S = st n l hp nx ck /\ Kr R base nx0 (fun j => Am.look j hp0) D l hp nx nm sm) \/ (∃ j, R.m < j /\ j <= ios.length /\ (∀ i, i ∈ D ↔ i < j) /\ Z j S)) ?_ ?_ ios.length [] _ (.inl ⟨fun i h => absurd h y07, fun i h => absurd h y07, l0, hp0, nx0, ck0, fun _ => 0, fun _ => 0, rfl, ⟨hb0, y08 _, fun _ _ => rfl, fun i f h => absurd h y07, fun i h => absurd h y07, fun i h => absurd h y07, fun i j h => absurd h y07⟩⟩) ?_
 ·intro n1 D S i hI hi hnD hpD go;rcases hI with ⟨hD, hdc, l, hp1, nx, ck, nm, sm, rfl, hK⟩ | ⟨j, h1, h2, h3, hZj⟩
  ·have hlast0 := hlast R.m (y08 _) hm;by_cases hlt : i < R.m
   ·have e3 := hop i hlt n1 D l hp1 nx ck nm sm hK hpD;have hne : ∀ j ∈ D, R.dst i ≠ R.dst j := fun j hj e => hnD (by rw [hdst i hlt j (hD j hj) e]; exact hj);have hdc2 : ∀ j ∈ i :: D, ∀ p ∈ pres.getD j [], p ∈ i :: D := fun j hj p hpp => by
     rcases y0d.1 hj with rfl | hj
     ·exact y0c _ (hpD p hpp)
     ·exact y0c _ (hdc j hj p hpp)
    cases hqv : R.qv i with
    | some f =>
     rw [hqv] at e3;refine e3 (go _ (.inl ⟨fun j hj => ?_, hdc2, _, _, _, _, nm, sm, rfl, ?_⟩))
     ·rcases y0d.1 hj with rfl | hj
      ·exact hlt
      ·exact hD j hj
     ·refine ⟨fun t v ht => ?_, hK.bx, hK.ol, fun j g hj hg => ?_, fun j hj hg => ?_, fun j hj hg => ?_, fun j k hj hk hg hg2 e => ?_⟩
      ·rw [zal (hbase t v ht i hlt)]; exact hK.bs t v ht
      ·rcases y0d.1 hj with rfl | hj
       ·rw [hqv] at hg; injection hg with hg; subst hg;exact zga ..
       ·rw [zal (hne j hj)]; exact hK.q j g hj hg
      ·rcases y0d.1 hj with rfl | hj
       ·rw [hqv] at hg; cases hg
       ·rw [zal (hne j hj)]; exact hK.lv j hj hg
      ·rcases y0d.1 hj with rfl | hj
       ·rw [hqv] at hg; cases hg
       ·exact hK.lh j hj hg
      ·rcases y0d.1 hj with rfl | hj
       ·rw [hqv] at hg; cases hg
       ·rcases y0d.1 hk with rfl | hk
        ·rw [hqv] at hg2; cases hg2
        ·exact hK.ij j k hj hk hg hg2 e
    | none =>
     rw [hqv] at e3;have hji : ∀ j ∈ D, j ≠ i := fun j hj e => hnD (e ▸ hj);refine e3 (go _ (.inl ⟨fun j hj => ?_, hdc2, _, _, _, _, updN nm i nx, updN sm i ck, rfl, ?_⟩))
     ·rcases y0d.1 hj with rfl | hj
      ·exact hlt
      ·exact hD j hj
     ·refine ⟨fun t v ht => ?_, Nat.le_succ_of_le hK.bx, fun j hj => ?_, fun j g hj hg => ?_, fun j hj hg => ?_, fun j hj hg => ?_, fun j k hj hk hg hg2 e => ?_⟩
      ·rw [zal (hbase t v ht i hlt)]; exact hK.bs t v ht
      ·rw [za5 (y0a hj hK.bx)]; exact hK.ol j hj
      ·rcases y0d.1 hj with rfl | hj
       ·rw [hqv] at hg; cases hg
       ·rw [zal (hne j hj), hK.q j g hj hg];refine congrArg some (hq j g hg _ _ _ _ fun p hpp => ?_);by_cases hpi : p = i
        ·exact absurd (hdc j hj p hpp) (by rw [hpi]; exact hnD)
        ·rw [zdu hpi, zdu hpi]; exact ⟨rfl, rfl⟩
      ·rcases y0d.1 hj with rfl | hj
       ·rw [zj0, zj0]; exact zga ..
       ·rw [zal (hne j hj), zdu (hji j hj), zdu (hji j hj)]; exact hK.lv j hj hg
      ·rcases y0d.1 hj with rfl | hj
       ·rw [zj0, zj0]; exact ⟨za4, hK.bx, y09 _⟩
       ·rw [zdu (hji j hj), zdu (hji j hj)];obtain ⟨a1, a2, a3⟩ := hK.lh j hj hg;exact ⟨(za5 a3).trans a1, a2, y1c a3⟩
      ·by_cases e1 : j = i
       ·by_cases e2 : k = i
        ·rw [e1, e2]
        ·have hk' : k ∈ D := (y0d.1 hk).resolve_left e2;rw [e1, zj0, zdu e2] at e;exact absurd (hK.lh k hk' hg2).2.2 (by omega)
       ·have hj' : j ∈ D := (y0d.1 hj).resolve_left e1;by_cases e2 : k = i
        ·rw [e2, zj0, zdu e1] at e;exact absurd (hK.lh j hj' hg).2.2 (by omega)
        ·rw [zdu e1, zdu e2] at e;exact hK.ij j k hj' ((y0d.1 hk).resolve_left e2) hg hg2 e
   ·have him : i = R.m := by
     refine y1f fun hne => ?_;exact absurd (hD R.m (hpD R.m (hlast i (by omega) hi R.m (by omega)))) (y23 _)
    subst him;have hall : ∀ j < R.m, j ∈ D := fun j hj => hpD j (hlast0 j hj);refine hlops R.m (y08 _) hm _ (hZ l hp1 nx ck nm sm ⟨hK.bs, hK.bx, hK.ol, fun j g hj hg => hK.q j g (hall j (y0n.1 hj)) hg, fun j hj hg => hK.lv j (hall j (y0n.1 hj)) hg, fun j hj hg => hK.lh j (hall j (y0n.1 hj)) hg, fun j k hj hk hg hg2 e => hK.ij j k (hall j (y0n.1 hj)) (hall k (y0n.1 hk)) hg hg2 e⟩) n1 D fun S' hS' => go _ (.inr ⟨R.m + 1, y09 _, hm, fun j => ⟨fun hj => ?_, fun hj => ?_⟩, hS'⟩)
    ·rcases y0d.1 hj with rfl | hj
     ·omega
     ·have := hD j hj; omega
    ·by_cases e : j = R.m
     ·rw [e]; exact y01 ..
     ·exact y0c _ (hall j (by omega))
  ·have hij : i = j := by
    have a1 : ¬ i < j := fun h => hnD ((h3 i).2 h);refine y1f fun hne => ?_;have := (h3 j).1 (hpD j (hlast i (by omega) hi j (by omega)));omega
   subst hij;refine hlops i (Nat.le_of_lt h1) hi S hZj n1 D fun S' hS' => go _ (.inr ⟨i + 1, by omega, hi, fun j => ⟨fun hj => ?_, fun hj => ?_⟩, hS'⟩)
   ·rcases y0d.1 hj with rfl | hj
    ·omega
    ·have := (h3 j).1 hj; omega
   ·by_cases e : j = i
    ·rw [e]; exact y01 ..
    ·exact y0c _ ((h3 j).2 (by omega))
 ·intro D S hI hD;rcases hI with ⟨h1, _⟩ | ⟨j, h1, h2, h3, hZ⟩
  ·exact absurd (h1 R.m (hD R.m hm)) (y23 _)
  ·have : j = ios.length := by
    refine y1f fun hne => ?_;have := (h3 j).1 (hD j (by omega));omega
   subst this;exact hfin S hZ
 ·rw [List.filter_eq_self.2 fun i _ => by simp, y2j]
def regOk (m N : Nat) (pres : List (List Nat)) (dst : Nat -> Nat) (bk : List Nat) : Bool :=
 Nat.blt m N && ((List.range N).all fun i => (pres.getD i []).all fun p => Nat.blt p i) && ((List.range N).all fun i => Nat.blt i m || (List.range i).all fun p => (pres.getD i []).any fun q => Nat.beq q p) &&
  ((List.range m).all fun i => (List.range m).all fun j => Nat.beq i j || !Nat.beq (dst i) (dst j)) && (List.range m).all fun i => bk.all fun t => !Nat.beq (dst i) t
theorem zfx {a b : Nat} : Nat.beq a b = true ↔ a = b := ⟨y15, fun e => by rw [e]; exact y2i _⟩
theorem zot {a b : Nat} : Nat.blt a b = true ↔ a < b := by
 show Nat.ble (a + 1) b = true ↔ _;exact ⟨y04, Nat.ble_eq_true_of_le⟩
theorem zn3 {P : Program} {w0 : World} {N0 : Nat} {rd : Option (Nat × Nat)} {ios : List Opr} {pres : List (List Nat)} {K : AS -> Prop} {n nx0 ck0 : Nat} {l0 : List (Nat × AV)} {hp0 : List (Nat × Nat × AObj)} (R : Reg) (base : List (Nat × AV))
  (Z : Nat -> AS -> Prop) (N : Nat) (hN : ios.length = N) (hck : regOk R.m N pres R.dst (base.map (·.1)) = true) (hb0 : ∀ t v, (t, v) ∈ base -> zac t l0 = some v)
  (hq : ∀ i f, R.qv i = some f -> ∀ nm sm nm' sm' : Nat -> Nat, (∀ p ∈ pres.getD i [], nm p = nm' p /\ sm p = sm' p) -> f nm sm = f nm' sm')
  (hop : ∀ i < R.m, ∀ n1 D l hp nx ck nm sm, Kr R base nx0 (fun j => Am.look j hp0) D l hp nx nm sm -> (∀ p ∈ pres.getD i [], p ∈ D) ->
   match R.qv i with
   | some f => AnyF P w0 N0 rd ios pres n1 (i :: D) (st n ((R.dst i, f nm sm) :: l) hp nx ck) K -> StF P w0 N0 rd ios pres n1 D (st n l hp nx ck) K i
   | none => AnyF P w0 N0 rd ios pres n1 (i :: D) (st n ((R.dst i, R.lw i nx ck) :: l) ((nx, ck, .cells (R.lc i)) :: hp) (nx + 1) (ck + 1)) K -> StF P w0 N0 rd ios pres n1 D (st n l hp nx ck) K i)
  (hZ : ∀ l hp nx ck nm sm, Kr R base nx0 (fun j => Am.look j hp0) (List.range R.m) l hp nx nm sm -> Z R.m (st n l hp nx ck))
  (hlops : ∀ j, R.m <= j -> j < N -> ∀ S, Z j S -> ∀ n1 D, (∀ S', Z (j + 1) S' -> AnyF P w0 N0 rd ios pres n1 (j :: D) S' K) -> StF P w0 N0 rd ios pres n1 D S K j)
  (hfin : ∀ S, Z N S -> K S) :
  AnyF P w0 N0 rd ios pres ios.length [] (st n l0 hp0 nx0 ck0) K := by
 subst hN;unfold regOk at hck;rw [y0g, y0g, y0g, y0g] at hck;obtain ⟨⟨⟨⟨h1, h2⟩, h3⟩, h4⟩, h5⟩ := hck;simp only [y0h, y0n] at h2 h3 h4 h5;refine any_reg R base Z (zot.1 h1) (fun i hi p hp => zot.1 (h2 i hi p hp)) (fun i hm hi p hp => ?_) (fun i hi j hj e => ?_) (fun t v ht i hi e => ?_) hb0 hq hop hZ hlops hfin
 ·have := h3 i hi;rw [y0v] at this;rcases this with h | h
  ·exact absurd (zot.1 h) (by omega)
  ·rw [y0h] at h;have := h p (y0n.2 hp);rw [y2e] at this;obtain ⟨q, hq, e⟩ := this;rw [<- zfx.1 e];exact hq
 ·have := h4 i hi j hj;rw [y0v] at this;rcases this with h | h
  ·exact zfx.1 h
  ·rw [zfx.2 e] at h;cases h
 ·have := h5 i hi t (y0p.2 ⟨(t, v), ht, rfl⟩);rw [zfx.2 e] at this;cases this
end Go.Proofs.YtdolbghhcijonaaGreat
namespace Go.Proofs.YtdolbghhcijonaaGreat
open Go Go.Am
theorem z_any2 {P : Program} {w0 : World} {N0 : Nat} {k : List Fr} {Q : Exit -> AS -> Prop} {ios : List Opr} {pres : List (List Nat)} (hm : P.follows .mixedOrders = true) {y : IC} {S S1 : AS}
  (h : ∀ rd (K : AS -> Prop), (∀ S', Sub0 w0 N0 S' S1 -> K S') -> AnyF P w0 N0 rd ios pres ios.length [] S K) (go : Zm P w0 N0 none y S1 k Q) : Zm P w0 N0 none (.region ios (some pres)) S (.seq y :: k) Q :=
 zlr hm fun rd => h rd _ fun _ hs => (zaw (zlh (md := none) hs go)).ok
section
variable {n nx ck : Nat} {mk : List (Nat × Nat)} {l : List (Nat × AV)} {hp : List (Nat × Nat × AObj)}
theorem zvq {sz bytes : Nat} {z : List AV} {a c : Arg} {lv cv : Int} {kd kc : IntKind} (ha : zas a l = some (.int kd lv)) (hc : zas c l = some (.int kc cv)) (hb : 0 <= lv /\ lv <= cv /\ cv <= 1048576 /\ bytes <= 16777216) :
  iop (st n l hp nx ck mk) (.mkslice sz bytes z a c) = some (.ms nx ck sz 0 lv.toNat (some cv.toNat), st n l ((nx, ck, .cells (zf7 cv.toNat z)) :: hp) (nx + 1) (ck + 1) mk) := by
 simp only [iop, zai, ha, hc, if_pos hb];rfl
end
end Go.Proofs.YtdolbghhcijonaaGreat
namespace Go.Proofs.YtdolbghhcijonaaGreat
open Go Go.Am
set_option maxRecDepth 100000
mutual
theorem znd {n v : Int} : ∀ {x : Ex}, nds n x = 0 -> v ∈ zm0 x -> occB v x = true
 | .nd op ix args, hs, h => by
  obtain ⟨hn, hch⟩ := zhq hs;obtain ⟨o0, o5, kl, km, i0, im⟩ := zhs hn;rw [zm0] at h;rw [occB];by_cases h1 : op = 1
  ·subst h1;rw [if_pos rfl] at h ⊢;simp [zlq] at km;rw [km, znc, y0u] at h;rw [y0j.1 h, decide_eq_true rfl]
  ·rw [if_neg h1] at h ⊢;exact zrh hch h
theorem zrh {n v : Int} : ∀ {l : List Ex}, (∀ y ∈ l, nds n y = 0) -> v ∈ znc l -> occL v l = true
 | [], _, h => by rw [znc] at h; cases h
 | y :: ys, hs, h => by
  rw [znc] at h;rw [occL];rcases y1s.1 h with h | h
  ·rw [znd (hs y (y01 ..)) h, Bool.true_or]
  ·rw [zrh (fun z hz => hs z (y0c _ hz)) h, Bool.or_true]
end
mutual
theorem zne {n v : Int} : ∀ {x : Ex}, nds n x = 0 -> v ∈ zm0 x -> 0 <= v /\ v < n
 | .nd op ix args, hs, h => by
  obtain ⟨hn, hch⟩ := zhq hs;obtain ⟨o0, o5, kl, km, i0, im⟩ := zhs hn;rw [zm0] at h;rcases y1s.1 h with h | h
  ·split at h
   ·rename_i h1;have := y0j.1 h;subst h1 this;simp [zqo] at im;exact ⟨i0, by omega⟩
   ·cases h
  ·exact zri hch h
theorem zri {n v : Int} : ∀ {l : List Ex}, (∀ y ∈ l, nds n y = 0) -> v ∈ znc l -> 0 <= v /\ v < n
 | [], _, h => by rw [znc] at h; cases h
 | y :: ys, hs, h => by
  rw [znc] at h;rcases y1s.1 h with h | h
  ·exact zne (hs y (y01 ..)) h
  ·exact zri (fun z hz => hs z (y0c _ hz)) h
end
def okG (c : Ctl) (i : Nat) (v : Int) : Prop := 0 <= v /\ v < (lnC c : Int) /\ ∀ k : Nat, k < c.sg.length -> v = ((fsC c + k : Nat) : Int) -> i <= k -> ¬ (sgA c.sg k).kd = 0
theorem okG_on {c : Ctl} (h : Ct c) {i : Nat} (hi : i < c.sg.length) (hk : (sgA c.sg i).kd = 0) : ∀ v ∈ zm0 (sgA c.sg i).on, okG c i v := fun v hv => by
 have hr := zne (zhr (h.on i hi)) hv;have ho := znd (zhr (h.on i hi)) hv;refine ⟨hr.1, hr.2, fun k hkl e hik h0 => ?_⟩;have hl := h.lt i hi hk;unfold zin at hl;rw [List.any_eq_false] at hl;have := hl k (y0n.2 hkl);unfold ltB at this;rw [e] at ho;rw [ho, decide_eq_true h0, decide_eq_true hik] at this;exact this rfl
-- (*pneumatic/control.checker).gate$1
def ic127 : IC := sR [oT 6 0,
  oN 7 1,
  oM 8 (.nilchk (.t 7)),
  oF 9 0 8,
  oL 10 5 9,
  oM 11 (.call (.c (.fn 47 [] [])) [(.t 10)]),
  oM 12 (.bin .sub (.t 6) (.t 11)),
  oT 5 12]
 (.region [oN 13 2,
  oT 14 13,
  ⟨(some 15), .mov (.t 5), some (14, false)⟩,
  ⟨(some 16), .load none (.t 3), some (14, false)⟩,
  ⟨(some 17), .bin .geq (.t 15) (.t 16), some (14, false)⟩,
  ⟨(some 18), .mov (.t 17), some (14, false)⟩,
  ⟨(some 19), .load none (.t 1), some (18, true)⟩,
  ⟨(some 20), .nilchk (.t 19), some (18, true)⟩,
  ⟨(some 21), .faddr 0 (.t 20), some (18, true)⟩,
  ⟨(some 22), .faddr 2 (.t 21), some (18, true)⟩,
  ⟨(some 23), .load none (.t 22), some (18, true)⟩,
  ⟨(some 24), .mov (.t 5), some (18, true)⟩,
  ⟨(some 25), .idxs 10 (.t 23) (.t 24), some (18, true)⟩,
  ⟨(some 26), .faddr 1 (.t 25), some (18, true)⟩,
  ⟨(some 27), .load none (.t 26), some (18, true)⟩,
  ⟨(some 28), .bin .eql (.t 27) (cI 0), some (18, true)⟩,
  ⟨(some 29), .pick (.t 18) (.t 28) (.c (.bool false)), some (14, false)⟩,
  oM 30 (.pick (.t 14) (.c (.bool true)) (.t 29)),
  ⟨none, .store 1 (.t 2) (.t 30), none⟩] none)
theorem fn127 : env0.fn 127 = some ⟨31, ic127, []⟩ := by kernel_rfl
def ltI (_ : Unit) (H : HS) : Prop := 0 < H.next /\ Am.look 0 H.heap = some (0, .cells [.bool false])
theorem zw9 : Local (fun i => i = 0) ltI :=
 ⟨fun _ _ h _ hi => hi ▸ h.1, fun _ _ _ h hn hl => ⟨y0a h.1 hn, (hl 0 rfl).trans h.2⟩⟩
set_option maxHeartbeats 2000000 in
set_option maxRecDepth 100000 in
theorem gate127 {w0 : World} {N0 : Nat} {c : Ctl} (h : Ct c) {i : Nat} (K : List AV) (v : Int) (hv : okG c i v) (H : HS) (hI : ltI () H) :
  FT Tryz.prog w0 N0 127 [.int .i64 v, .vptr [.vptr (cC c ++ K)], .mptr 0 0 0, .vptr [.int .i64 (i : Nat)]] H (fun _ H' => Keep (fun i => i = 0) H H' /\ ltI () H') := by
 have p47 := znk h.toSm;have hfs : fsC c <= 1000 := by
  have := h.a6;have := h.i16;unfold fsC;omega
 obtain ⟨v0, v1, v2⟩ := hv;have hs16 := h.s16;have hw : IntKind.wrap .i64 (v - (fsC c : Nat)) = v - (fsC c : Nat) := zbe _ (by unfold lnC at v1; omega) (by unfold lnC at v1; omega);have hfin : ∀ {b : Bool}, b = false -> Keep (fun i => i = 0) H ⟨zau 0 (0, .cells [.bool b]) H.heap, H.next, H.clk⟩ /\ ltI () ⟨zau 0 (0, .cells [.bool b]) H.heap, H.next, H.clk⟩ := fun e => by
  subst e;exact ⟨⟨y08 _, y08 _, fun j hj _ => by rw [za0, if_neg (fun e => hj e.symm)]⟩, hI.1, by rw [za0, if_pos rfl]⟩
 obtain ⟨k1, k2⟩ := hI;refine zbr env0_ok fn127 [(0, .int .i64 v), (1, .vptr [.vptr (cC c ++ K)]), (2, .mptr 0 0 0), (3, .vptr [.int .i64 (i : Nat)])] (y04 rfl) rfl ?_;unfold ic127;unfold cC vsG at *;refine zbf ?_;rw [hw];refine zaf rfl k2 k1 rfl ?_;refine zbt ?_;refine za3 rfl rfl rfl (fun h1 => ?_) fun h1 => ?_
 ·have h1 : v - (fsC c : Nat) >= (i : Nat) := of_decide_eq_true h1;obtain ⟨k, hk⟩ : ∃ k : Nat, v - (fsC c : Nat) = (k : Nat) := ⟨(v - (fsC c : Nat)).toNat, by omega⟩
  have hkl : k < c.sg.length := by unfold lnC at v1; omega
  have hge := zdn hkl;have hkd := v2 k hkl (by omega) (by omega);rw [hk];generalize sgA c.sg k = s at *;refine zbf ?_;refine za3 rfl rfl rfl (fun h2 => absurd (by simpa using h2) hkd) fun h2 => ?_;refine zcb ?_;refine zaj rfl rfl rfl rfl k2 rfl rfl ?_;repeat (first | refine zb1 ?_)
  exact zab ⟨.inl rfl, _, rfl, hfin rfl⟩
 ·refine zcb ?_;refine zaj rfl rfl rfl rfl k2 rfl rfl ?_;repeat (first | refine zb1 ?_)
  exact zab ⟨.inl rfl, _, rfl, hfin rfl⟩
theorem okW1 {a b sb : Nat} {cs : List AV} (h : a ≠ b) : okW [a] [(some (b, sb), cs)] = true := by
 show (!zjl b [a] && true) = true;have : zjl b [a] = false := by
  cases hb : zjl b [a] with
  | false => rfl
  | true => exact absurd (y0j.1 (zjm.1 hb)) fun e => h e.symm
 rw [this];rfl
def z10 : List AV := [.str [], .int .i64 0, .int .i64 0, .int .i64 0, .nils, .int .i64 0, .int .i64 0, .nils, .int .i64 0, .bool false]
def rg104 (X : List AV) (v4 : AV) (i : Nat) (s : Sig) : Reg where
 m := 10
 dst := fun j => match j with | 8 => 5 | 9 => 6 | j => j + 7
 qv := fun j => match j with
  | 0 => some fun _ _ => .vptr X
  | 1 => some fun _ _ => .vptr X
  | 2 => some fun _ _ => .vptr X
  | 3 => some fun _ _ => .vptr (X.drop 2)
  | 4 => some fun _ _ => v4
  | 5 => some fun _ _ => .int .i64 (i : Nat)
  | 6 => some fun _ _ => .vptr (c10 s)
  | 7 => some fun _ _ => .agg (c10 s)
  | _ => none
 lw := fun _ n s => .mptr n s 0
 lc := fun j => match j with | 8 => z10 | _ => [.bool false]
-- (*pneumatic/control.checker).gate
def ic104 : IC := sR [oM 2 (.box (.t 0)),
  oM 3 (.box (.t 1)),
  oM 4 (.mov (cI 0))]
 (.seq (.region [oN 7 2,
  oM 8 (.nilchk (.t 7)),
  oF 9 0 8,
  oF 10 2 9,
  oN 11 10,
  oN 12 3,
  oM 13 (.idxs 10 (.t 11) (.t 12)),
  oL 14 10 13,
  oM 5 (.alloc [.str [], .int .i64 0, .int .i64 0, .int .i64 0, .nils, .int .i64 0, .int .i64 0, .nils, .int .i64 0, .bool false]),
  oM 6 (.alloc [.bool false]),
  ⟨none, .store 10 (.t 5) (.t 14), none⟩,
  ⟨none, .store 1 (.t 6) (.c (.bool false)), none⟩] (some [[], [0], [1], [2], [3], [], [4, 5], [6], [], [], [8, 7, 0, 1, 2, 3, 4, 5, 6, 7, 8, 9], [9, 10, 0, 1, 2, 3, 4, 5, 6, 7, 8, 9, 10]]))
 (sR [oF 15 2 5,
  oL 16 3 15,
  oM 17 (.mkfn 127 [] [(.t 2), (.t 6), (.t 3)]),
  oM 18 (.call (.c (.fn 49 [] [])) [(.t 16), (.t 17)])]
 (.seq (.block 0 (sR [oN 20 6,
  oT 19 20]
 (.cond (.t 19) (sR [oM 4 (.mov (cI 9))]
 (.ret))
 (sR [oF 22 5 5,
  oL 23 3 22,
  oM 24 (.call (.c (.fn 128 [] [])) [(.t 23)]),
  oM 25 (.un .not (.t 24)),
  oT 26 25,
  ⟨(some 27), .faddr 9 (.t 5), some (26, false)⟩,
  ⟨(some 28), .load none (.t 27), some (26, false)⟩,
  oM 29 (.pick (.t 26) (.c (.bool true)) (.t 28)),
  oT 30 29,
  ⟨(some 31), .faddr 8 (.t 5), some (30, false)⟩,
  ⟨(some 32), .load none (.t 31), some (30, false)⟩,
  ⟨(some 33), .bin .neq (.t 32) (cI 0), some (30, false)⟩,
  oM 34 (.pick (.t 30) (.c (.bool true)) (.t 33)),
  oT 21 34]
 (.cond (.t 21) (sR [oM 4 (.mov (cI 3))]
 (.ret))
 (.skip))))))
 (sR [oM 4 (.mov (cI 0))]
 (.ret)))))
theorem fn104 : env0.fn 104 = some ⟨35, ic104, [.t 4]⟩ := by kernel_rfl
set_option maxHeartbeats 4000000 in
set_option maxRecDepth 100000 in
theorem gate104 {c : Ctl} (h : Ct c) {i : Nat} (hi : i < c.sg.length) (hk : (sgA c.sg i).kd = 0) (K : List AV) : PF Tryz.prog 104 [.vptr (cC c ++ K), .int .i64 (i : Nat)] (.int .i64 0) := by
 have hge := zdn hi;have hz := h.zf i hi (by rw [hk]; decide);have hd := h.d0 i hi (by rw [hk]; decide);have p128 := zxs (sgA c.sg i).off;rw [hz.1] at p128;have hini := hz.2;have hok := okG_on h hi hk;have hsl := (h.x1 _ (zi0 hi)).1;have hea := fun w0 N0 => each49 (w0 := w0) (N0 := N0) (g := 127) (fi := []) (ca := [.vptr [.vptr (cC c ++ K)], .mptr 0 0 0, .vptr [.int .i64 (i : Nat)]]) zw9 (step := fun s _ => s) (ok := okG c i) (fun s v H hv hI => zk8 (gate127 h K v hv H hI)) (sgA c.sg i).on hsl hok;rw [zif] at hea;refine za6 env0_ok fn104 [(0, .vptr (cC c ++ K)), (1, .int .i64 (i : Nat))] (y04 rfl) rfl fun w0 N0 => ?_;have hea := hea w0 N0;unfold ic104;generalize sgA c.sg i = s at *;refine zsr rfl (zcs rfl rfl (zcs rfl rfl (zan rfl (onu ?_))));refine zck [] [(0, 0, [.vptr (cC c ++ K)]), (1, 1, [.int .i64 (i : Nat)])] [(2, .vptr [.vptr (cC c ++ K)]), (3, .vptr [.int .i64 (i : Nat)])] rfl (.cons rfl rfl (.cons rfl rfl .nil)) .nil (.cons rfl (.fptr rfl rfl) (.cons rfl (.fptr rfl rfl) .nil)) ?_;refine zb3 (z_any2 env0_ok.mix (S1 := st 35 [(2, .vptr [.vptr (cC c ++ K)]), (3, .vptr [.int .i64 (i : Nat)]), (5, .vptr (c10 s)), (6, .mptr 0 0 0)] [(0, 0, .cells [.bool false])] 1 1) (fun rd K0 hK => ?_) ?_)
 ·refine zn3 (rg104 (cC c ++ K) (vsG c.sg) i s) [(2, .vptr [.vptr (cC c ++ K)]), (3, .vptr [.int .i64 (i : Nat)])] (fun j S => ∃ l hp nx ck n8 s8 n9 s9, S = st 35 l hp nx ck /\ zac 2 l = some (.vptr [.vptr (cC c ++ K)]) /\ zac 3 l = some (.vptr [.int .i64 (i : Nat)]) /\ zac 5 l = some (.mptr n8 s8 0) /\ zac 6 l = some (.mptr n9 s9 0) /\ n8 ≠ n9 /\ (11 <= j -> Am.look n8 hp = some (s8, .cells (c10 s))) /\ (j = 10 -> Am.look n8 hp = some (s8, .cells z10) /\ zac 14 l = some (.agg (c10 s))) /\ Am.look n9 hp = some (s9, .cells [.bool false])) 12 rfl rfl ?_ ?_ ?_ ?_ ?_ ?_
  ·intro t v ht;rcases y0d.1 ht with e | ht
   ·cases e; rfl
   ·cases y0j.1 ht; rfl
  ·intro j f e nm sm nm' sm' _;unfold rg104 at e;dsimp only at e;split at e <;> cases e <;> rfl
  ·intro j hj n1 D l hp nx ck nm sm hK hp;have hj : j < 10 := hj
   match j, hj with
   | 0, _ => exact fun go => za7 rfl rfl (zg9 (hK.bs 2 _ (y01 ..)) rfl) go
   | 1, _ => exact fun go => za7 rfl rfl (g_nilv (hK.q 0 _ (hp 0 (y01 ..)) rfl)) go
   | 2, _ => exact fun go => za7 rfl rfl (ze9 (hK.q 1 _ (hp 1 (y01 ..)) rfl) rfl rfl) go
   | 3, _ => exact fun go => za7 rfl rfl (ze9 (hK.q 2 _ (hp 2 (y01 ..)) rfl) rfl rfl) go
   | 4, _ => exact fun go => za7 rfl rfl (zg9 (hK.q 3 _ (hp 3 (y01 ..)) rfl) rfl) go
   | 5, _ => exact fun go => za7 rfl rfl (zg9 (hK.bs 3 _ (me 1 rfl)) rfl) go
   | 6, _ => exact fun go => za7 rfl rfl (zrr (hK.q 4 _ (hp 4 (y01 ..)) rfl) (hK.q 5 _ (hp 5 (me 1 rfl)) rfl) (y0z _) hge rfl) go
   | 7, _ => exact fun go => za7 rfl rfl (zij (hK.q 6 _ (hp 6 (y01 ..)) rfl) rfl rfl rfl) go
   | 8, _ => exact fun go => za7 rfl rfl (zh5) go
   | 9, _ => exact fun go => za7 rfl rfl (zh5) go
   | j + 10, h => exact absurd h (by omega)
  ·intro l hp nx ck nm sm hK;have m : ∀ j, j < 10 -> j ∈ List.range 10 := fun j hj => y0n.2 hj;exact ⟨l, hp, nx, ck, nm 8, sm 8, nm 9, sm 9, rfl, hK.bs 2 _ (y01 ..), hK.bs 3 _ (me 1 rfl), hK.lv 8 (m 8 (by decide)) rfl, hK.lv 9 (m 9 (by decide)) rfl, fun e => absurd (hK.ij 8 9 (m 8 (by decide)) (m 9 (by decide)) rfl rfl e) (by decide), fun h => absurd h (by show ¬ 11 <= 10; decide), fun _ => ⟨(hK.lh 8 (m 8 (by decide)) rfl).1, hK.q 7 _ (m 7 (by decide)) rfl⟩, (hK.lh 9 (m 9 (by decide)) rfl).1⟩
  ·rintro j h1 h2 S ⟨l, hp, nx, ck, n8, s8, n9, s9, rfl, a2, a3, a5, a6, hne, k8, k7, k9⟩ n1 D go;have h1 : 10 <= j := h1;rcases (show j = 10 \/ j = 11 by omega) with rfl | rfl
   ·obtain ⟨k7, q7⟩ := k7 rfl;refine zg4 rfl (ze4 a5 q7 rfl rfl k7 rfl rfl) (go _ ⟨l, _, _, _, n8, s8, n9, s9, rfl, a2, a3, a5, a6, hne, fun _ => ?_, fun h => absurd h (by decide), ?_⟩)
    ·rw [za0, if_pos rfl]; rfl
    ·rw [za0, if_neg hne]; exact k9
   ·refine zg4 rfl (ze4 a6 rfl rfl rfl k9 rfl rfl) (go _ ⟨l, _, _, _, n8, s8, n9, s9, rfl, a2, a3, a5, a6, hne, fun _ => ?_, fun h => absurd h (by decide), ?_⟩)
    ·rw [za0, if_neg (fun e => hne e.symm)]; exact k8 (by decide)
    ·rw [za0, if_pos rfl]; rfl
  ·rintro S ⟨l, hp, nx, ck, n8, s8, n9, s9, rfl, a2, a3, a5, a6, hne, k8, _, k9⟩;have k8 := k8 (by decide);refine hK _ ?_;exact zgt [(some (n9, s9), [.bool false])] [(n8, s8, c10 s)] rfl rfl (okW1 hne) (.cons k8 rfl .nil) (.cons k9 (.keep rfl) .nil) (.cons a2 (.same rfl) (.cons a3 (.same rfl) (.cons a5 (.fptr (by rw [fzl, y2i, y2i]; rfl) rfl) (.cons a6 (.mptr rfl) .nil))))
 refine zbf ?_;refine zjn _ rfl rfl (zc4 (hea ⟨[(0, 0, .cells [.bool false])], 1, 1⟩ () ⟨Nat.one_pos, rfl⟩)) (fun v H hF => fun m hm => absurd hm y07) fun v H2 hF => ?_;obtain ⟨hK2, k1, k2⟩ := hF;refine onu ?_;refine zcb ?_;refine zaf rfl k2 k1 rfl ?_;refine zbf ?_;rw [hini];refine zbb ?_;rw [hd];refine zbb ?_;exact uE
end Go.Proofs.YtdolbghhcijonaaGreat
