/-
  THE STROKES THAT ARE PERMITTED: homing.bits, homing.moves, homing.Permitted.; THE STROKES THAT ARE PERMITTED: the reference's Moves, and Permitted twice.; THE SEARCH FROM HOME: what it computes; the queue's functions.; THE SEARCH FROM HOME: homing.levels.; THE LEVELS: homing.levels, as a whole.; WHAT THE SEARCH FINDS: the lengths of the shortest ways; and what the reference's rounds find is the sa
-/
import Derived.Test.YtoiblgbaeglgoaaKX7
import Derived.Test.YtoiblgbaeglgoaaRows
import Derived.JoinedCond
namespace Go.Proofs.Ytoiblgbaeglgoaa
open Go Go.Am
theorem bit_all : ∀ e ∈ allE, ∀ i ∈ [0, 1, 2, 3], i < e.length → (((zcy e : Nat) : Int).fdiv (2 ^ (min i 64)) = ((zcy e / 2 ^ i : Nat) : Int)) ∧ IntKind.i64.wrap (BitVec.ofInt 64 ((zcy e / 2 ^ i : Nat) : Int) &&& BitVec.ofInt 64 1).toNat = (if e.getD i false then (1 : Int) else 0) := by decide +kernel
section
variable {e : List Bool} (h1 : 1 ≤ e.length) (h4 : e.length ≤ 4) {i : Nat} (hi : i < e.length)
include h1 h4 hi
theorem bit_i : (((zcy e : Nat) : Int).fdiv (2 ^ (min i 64)) = ((zcy e / 2 ^ i : Nat) : Int)) ∧ IntKind.i64.wrap (BitVec.ofInt 64 ((zcy e / 2 ^ i : Nat) : Int) &&& BitVec.ofInt 64 1).toNat = (if e.getD i false then (1 : Int) else 0) :=
 bit_all e (zdt e h1 h4) i (by rcases (show i = 0 ∨ i = 1 ∨ i = 2 ∨ i = 3 by omega) with rfl | rfl | rfl | rfl <;> simp) hi
theorem shrE : Am.binOp .shr (.int .i64 (zcy e : Nat)) (.int .i64 (i : Nat)) = some (.int .i64 (zcy e / 2 ^ i : Nat)) := by
 have h := (bit_i h1 h4 hi).1
 have hn : ¬ ((i : Nat) : Int) < 0 := by omega
 show (if ((i : Nat) : Int) < 0 then none else some (AV.int .i64 (((zcy e : Nat) : Int).fdiv (2 ^ (min ((i : Nat) : Int).toNat 64))))) = _
 rw [if_neg hn, y0y, h]
theorem andE : Am.binOp .and (.int .i64 (zcy e / 2 ^ i : Nat)) (.int .i64 1) = some (.int .i64 (if e.getD i false then (1 : Int) else 0)) :=
 congrArg (fun z => some (AV.int .i64 z)) (bit_i h1 h4 hi).2
end
theorem eqE (b : Bool) : Am.binOp .eql (.int .i64 (if b then (1 : Int) else 0)) (.int .i64 1) = some (.bool b) := by cases b <;> rfl
-- pneumatic/homing.bits
def ic106 : IC := .seq (.region [oM 2 (.box (.t 0)),
  oM 3 (.box (.t 1)),
  oM 4 (.mov (.c (.nilf)))] none)
 (.seq (.region [oM 5 (.mkfn 144 [] [(.t 2), (.t 3)]),
  oT 4 5] none)
 (.ret))
theorem fn106 : env0.fn 106 = some ⟨6, ic106, [.t 4]⟩ := by kernel_rfl
theorem bits106 (n k : Int) : PF Try.prog 106 [.int .i64 n, .int .i64 k] (.fn 144 [] [.vptr [.int .i64 n], .vptr [.int .i64 k]]) := by
 refine zax env0_ok fn106 [(0, .int .i64 n), (1, .int .i64 k)] (by show 2 ≤ 6; decide) rfl fun w0 N0 => ?_
 unfold ic106
 refine zsr rfl (zbq rfl rfl (zbq rfl rfl (za1 rfl (onr rfl (zgw rfl rfl (za1 rfl (onu (zaf ?_))))))))
 exact zae ⟨.inr rfl, _, rfl, rfl⟩
def b144_0 : IC := .seq (.region [oM 7 (.bin .lss (.t 6) (.t 5))] none)
 (.seq (.cond (.t 7) (.skip)
 (.exit 0))
 (.seq (.block 1 (.seq (.region [oT 8 6,
  oT 4 8] none)
 (.seq (.region [oT 9 0,
  oT 10 4,
  oN 11 2,
  oT 12 4,
  oM 13 (.bin .shr (.t 11) (.t 12)),
  oM 14 (.bin .and (.t 13) (.c (.int .i64 1))),
  oM 15 (.bin .eql (.t 14) (.c (.int .i64 1))),
  oM 16 (.call (.t 9) [(.t 10), (.t 15)]),
  oM 17 (.un .not (.t 16))] none)
 (.cond (.t 17) (.ret)
 (.skip)))))
 (.region [oM 18 (.bin .add (.t 6) (.c (.int .i64 1))),
  oT 6 18] none)))
-- pneumatic/homing.bits$1
def ic144 : IC := .seq (.region [oN 5 1,
  oM 6 (.mov (.c (.int .i64 0)))] none)
 (.block 0 (.loop b144_0))
theorem fn144 : env0.fn 144 = some ⟨19, ic144, []⟩ := by kernel_rfl
set_option maxHeartbeats 2000000 in
theorem range144 {w0 : World} {N0 id sp : Nat} {M : Nat → Prop} {I : Nat → HS → Prop} {e : List Bool} (h1 : 1 ≤ e.length) (h4 : e.length ≤ 4)
  (hy : ∀ i H, i < e.length → I i H → CT Try.prog w0 N0 (.yield id sp) [.int .i64 (i : Nat), .bool (e.getD i false)] H fun v H' => v = .bool true ∧ Keep M H H' ∧ I (i + 1) H') (H : HS) (hI : I 0 H) :
  FT Try.prog w0 N0 144 [.yield id sp, .vptr [.int .i64 (e.length : Nat)], .vptr [.int .i64 (zcy e : Nat)]] H fun _ H' => Keep M H H' ∧ I e.length H' := by
 refine zfe env0_ok fn144 [(0, .yield id sp), (1, .vptr [.int .i64 (e.length : Nat)]), (2, .vptr [.int .i64 (zcy e : Nat)])] (by show 3 ≤ 19; decide) rfl ?_
 unfold ic144
 refine zsr rfl (za6 rfl rfl (za1 rfl (onu (zad ?_))))
 refine zbj (fun m S => ∃ i H', m = e.length - i ∧ i ≤ e.length ∧ I i H' ∧ Keep M H H' ∧
   S = st 19 [(0, .yield id sp), (2, .vptr [.int .i64 (zcy e : Nat)]), (5, .int .i64 (e.length : Nat)), (6, .int .i64 (i : Nat))] H'.heap H'.next H'.clk) e.length
  (zaq (.cons rfl (.cons rfl (.cons rfl (.cons rfl .nil))))) ⟨0, H, rfl, y0q _, hI, Keep.refl M H, rfl⟩ ?_
 rintro m S ⟨i, H', rfl, hi, hI', hK', rfl⟩
 unfold b144_0
 refine zsr rfl ?_
 refine zao rfl rfl rfl (fun h3 => ?_) fun h3 => ?_
 ·have hlt : i < e.length := by
   have := of_decide_eq_true h3
   omega
  repeat (first | refine za7 ?_ | refine za5 rfl ?_ | refine zai ?_ | refine za8 ?_ | refine zad ?_ | refine zab ?_ | refine zb2 rfl ?_ | refine za1 rfl ?_ | refine za6 rfl rfl ?_)
  refine zb3 (op := .shr) rfl rfl (shrE h1 h4 hlt) ?_
  refine zb3 (op := .and) rfl rfl (andE h1 h4 hlt) ?_
  refine zb3 (op := .eql) rfl rfl (eqE _) ?_
  refine zuk _ rfl rfl (hy i H' hlt hI') (fun _ _ _ _ hm => absurd hm y0f) fun v2 H3 hF3 => ?_
  obtain ⟨rfl, hK3, hI3⟩ := hF3
  refine zes rfl rfl (onu (zb5 rfl (zab (zb9 (za8 (za5 rfl (zb3 (op := .add) rfl rfl rfl (za1 rfl (zai ?_)))))))))
  rw [zar i (by omega)]
  exact zat (show e.length - (i + 1) < e.length - i by omega) (zaq (.cons rfl (.cons rfl (.cons rfl (.cons rfl .nil))))) ⟨i + 1, H3, rfl, hlt, hI3, hK'.trans hK3, rfl⟩
 ·have hi2 : i = e.length := by
   have := of_decide_eq_false h3
   omega
  subst hi2
  refine onu (za7 (zb5 rfl (zbi (zan ?_))))
  refine zc9 ?_
  refine zbh ?_
  exact zae ⟨.inl rfl, _, rfl, hK', hI'⟩
def zir (l : List Ex) (e : List Bool) (m : Nat) : List Sk := ((List.range m).filter fun i => zrj l e i).map fun i => ⟨(i : Nat), !(e.getD i false)⟩
def zue (l : List Ex) (e : List Bool) : List Sk := zir l e e.length
theorem zso (l : List Ex) (e : List Bool) (m : Nat) : zir l e (m + 1) = zir l e m ++ (if zrj l e m then [⟨(m : Nat), !(e.getD m false)⟩] else []) := by
 unfold zir
 rw [List.range_succ, List.filter_append, y2h]
 congr 1
 simp only [y1n, List.filter_nil]
 split <;> rfl
theorem zvw (l : List Ex) (e : List Bool) (m : Nat) : (zir l e m).length ≤ m := by
 unfold zir
 rw [y07]
 have := List.length_filter_le (fun i => zrj l e i) (List.range m)
 rwa [y1x] at this
theorem ztl (a : List Sk) (s : Sk) : (cSs (a ++ [s])).flatten = (cSs a).flatten ++ [.int .i64 s.a, .bool s.o] := by
 simp [cSs, cS]
theorem zjz (a : List Sk) : (cSs a).flatten.length = a.length * 2 := by
 induction a with
 | nil => rfl
 | cons s a ih =>
  have : (cSs (s :: a)).flatten = [.int .i64 s.a, .bool s.o] ++ (cSs a).flatten := rfl
  rw [this, y0j, ih, y0m]
  show 2 + a.length * 2 = (a.length + 1) * 2
  omega
theorem zpn {S : AS} {d id sp : Nat} {cap : Option Nat} (a : List Sk) (hl : Am.look id S.heap = some (sp, .cells (cSs a).flatten)) : S.view (d + 1) (.ms id sp 2 0 a.length cap) = .vs (cSs a) := by
 have e : S.elems 2 (.ms id sp 2 0 a.length cap) = some (cSs a) := by
  obtain ⟨n, t, hp, nx, ck, mk⟩ := S
  exact zdb (ys := []) (cap := cap) (n := n) (nx := nx) (ck := ck) (mk := mk) (l := []) (hp := hp) (by rw [y0u]; exact hl) (zbe a) (fun x hx => by obtain ⟨s, _, rfl⟩ := y0o.1 hx; rfl)
 simp only [AS.view, e]
 congr 1
 unfold cSs
 rw [y1v]
 apply y1u
 intro s _
 cases d <;> rfl
noncomputable def zky : Code := match env0.fn 101 with
 | some i => ((zc1 i.ic)[0]?.getD (.skip, .skip)).1
 | none => .skip
noncomputable def zl0 : Code := match env0.fn 101 with
 | some i => ((zc1 i.ic)[0]?.getD (.skip, .skip)).2
 | none => .skip
def zny : IC := .seq (.region [oT 8 13] none)
 (.region [oT 9 14] none)
def zsu : IC := .block 1 (.seq (.region [oL 15 1 3,
  oN 16 4,
  oN 17 5,
  oT 18 8,
  oM 19 (.call (.c (.fn 104 [] [])) [(.t 15), (.t 16), (.t 17), (.t 18)])] none)
 (.cond (.t 19) (.region [oN 20 7,
  oT 21 8,
  oT 22 9,
  oM 23 (.un .not (.t 22)),
  oM 24 (.build [.int .i64 0, .bool false] [(0, 1, (.t 21)), (1, 1, (.t 23))]),
  oM 25 (.bslice 2 1 [.int .i64 0, .bool false] [(0, 2, (.t 24))]),
  oM 26 (.append 2 16 [.int .i64 0, .bool false] (.t 20) (.t 25)),
  ⟨none, .store 1 (.t 7) (.t 26), none⟩] none)
 (.skip)))
-- pneumatic/homing.moves
noncomputable def ic101 : IC := .seq (.region [oM 3 (.box (.t 0)),
  oM 4 (.box (.t 1)),
  oM 5 (.box (.t 2)),
  oM 6 (.mov (.c (.nils)))] none)
 (.seq (.region [oM 7 (.alloc [.nils])] none)
 (.seq (.seq (.region [oN 10 4,
  oN 11 5,
  oM 12 (.call (.c (.fn 106 [] [])) [(.t 10), (.t 11)])] none)
 (.block 0 (.rangeFunc (.t 12) [13, 14] zky zl0 zny zsu)))
 (.seq (.region [oN 27 7,
  oT 6 27] none)
 (.ret))))
theorem fn101 : env0.fn 101 = some ⟨28, ic101, [.t 6]⟩ := by kernel_rfl
structure I101 (l : List Ex) (e : List Bool) (ltm : List (Nat × AV)) (i : Nat) (H : HS) : Prop where
 nx : 4 ≤ H.next
 h3 : Am.look 3 H.heap = some (2, .loop .ready none 28 (zdh ltm) [13, 14] zky zl0 (2, 1))
 h2 : Am.look 2 H.heap = some (1, .deferred)
 h0 : ∃ sp, Am.look 0 H.heap = some (0, .cells [.ms 1 sp 2 0 (zir l e i).length none]) ∧ Am.look 1 H.heap = some (sp, .cells (cSs (zir l e i)).flatten)
def l101 (l : List Ex) (e : List Bool) : List (Nat × AV) := [(3, .vptr [.vs (cXs l)]), (4, .vptr [.int .i64 (e.length : Nat)]), (5, .vptr [.int .i64 (zcy e : Nat)]), (7, .mptr 0 0 0), (12, .fn 144 [] [.vptr [.int .i64 (e.length : Nat)], .vptr [.int .i64 (zcy e : Nat)]])]
set_option maxHeartbeats 2000000 in
theorem yield101 {w0 : World} {N0 : Nat} {l : List Ex} (hsl : ∀ y ∈ l, Slim y) {e : List Bool} (h1 : 1 ≤ e.length) (h4 : e.length ≤ 4) (hg : zc0 l e.length = 0) (ha : Com Try.prog zky zny) (hb : Com Try.prog zl0 zsu) (i : Nat) (H : HS) (hi : i < e.length) (h : I101 l e (l101 l e) i H) :
  CT Try.prog w0 N0 (.yield 3 2) [.int .i64 (i : Nat), .bool (e.getD i false)] H fun v H' => v = .bool true ∧ Keep (fun j => j < 4) H H' ∧ I101 l e (l101 l e) (i + 1) H' := by
 obtain ⟨nx, h3, h2, sp, h0, h1'⟩ := h
 have hmay := may104 l hsl e h1 h4 hg i hi
 have hml := zvw l e i
 have hsc := zso l e i
 refine zic (l0 := (14, .bool (e.getD i false)) :: (13, .int .i64 (i : Nat)) :: l101 l e) h3 ha hb rfl (by decide) rfl ?_
 unfold zny
 refine zsr rfl (za1 rfl (onR rfl (za1 rfl (zai ?_))))
 refine zae ⟨rfl, _, rfl, ?_⟩
 unfold zsu l101
 refine zad (zsr rfl (zal rfl rfl rfl rfl (za6 rfl rfl (za6 rfl rfl (za1 rfl ?_)))))
 refine zas rfl rfl hmay noC ?_
 cases hbm : zrj l e i with
 | true =>
  rw [hbm, if_pos rfl] at hsc
  refine onu (zb2 rfl (za5 rfl ?_))
  refine zbw (sp := 0) rfl (by (repeat (first | rw [za0, if_pos rfl] | rw [za0, if_neg (by decide)] | rw [za4, if_neg (by decide)])); first | rfl | assumption) (by omega) rfl ?_
  refine za1 rfl (za1 rfl (zes rfl rfl (zhr rfl rfl ?_)))
  refine zvy [[.int .i64 (i : Nat), .bool (!(e.getD i false))]] rfl rfl rfl rfl ?_
  refine zbp [[.int .i64 (i : Nat), .bool (!(e.getD i false))]] rfl rfl rfl (fun h => Nat.noConfusion h) rfl (by decide) (by (repeat (first | rw [za0, if_pos rfl] | rw [za0, if_neg (by decide)] | rw [za4, if_neg (by decide)])); first | rfl | assumption) (zjz _).symm (by show _ + 1 ≤ _; omega) ?_
  refine zah (sp := 0) rfl rfl rfl rfl (by (repeat (first | rw [za0, if_pos rfl] | rw [za0, if_neg (by decide)] | rw [za4, if_neg (by decide)])); first | rfl | assumption) rfl rfl ?_
  refine zai (zb9 ?_)
  refine zae ⟨28, zdh (l101 l e), [13, 14], zky, zl0, (2, 1), ?_, none, rfl, rfl, ⟨y0c _, y1a _, fun j hj _ => ?_⟩, nx, ?_, ?_, H.clk, ?_, ?_⟩
  ·show Am.look 3 (zb0 0 _ (zb0 1 _ (zb0 3 _ H.heap))) = _
   exact (by (repeat (first | rw [za0, if_pos rfl] | rw [za0, if_neg (by decide)] | rw [za4, if_neg (by decide)])); first | rfl | assumption)
  ·show Am.look j (zb0 3 _ (zb0 0 _ (zb0 1 _ (zb0 3 _ H.heap)))) = _
   rw [za0, if_neg (by omega), za0, if_neg (by omega), za0, if_neg (by omega), za0, if_neg (by omega)]
  ·show Am.look 3 (zb0 3 _ _) = _
   rw [za0, if_pos rfl]; rfl
  ·show Am.look 2 (zb0 3 _ (zb0 0 _ (zb0 1 _ (zb0 3 _ H.heap)))) = _
   exact (by (repeat (first | rw [za0, if_pos rfl] | rw [za0, if_neg (by decide)] | rw [za4, if_neg (by decide)])); first | rfl | assumption)
  ·show Am.look 0 (zb0 3 _ (zb0 0 _ (zb0 1 _ (zb0 3 _ H.heap)))) = _
   rw [hsc, y0j]
   exact (by (repeat (first | rw [za0, if_pos rfl] | rw [za0, if_neg (by decide)] | rw [za4, if_neg (by decide)])); first | rfl | assumption)
  ·show Am.look 1 (zb0 3 _ (zb0 0 _ (zb0 1 _ (zb0 3 _ H.heap)))) = _
   rw [hsc, ztl]
   exact (by (repeat (first | rw [za0, if_pos rfl] | rw [za0, if_neg (by decide)] | rw [za4, if_neg (by decide)])); first | rfl | assumption)
 | false =>
  rw [hbm, if_neg (by simp), y0u] at hsc
  refine onu (zb5 rfl (zab (zb9 ?_)))
  refine zae ⟨28, zdh (l101 l e), [13, 14], zky, zl0, (2, 1), ?_, none, rfl, rfl, ⟨y0c _, y0c _, fun j hj _ => ?_⟩, nx, ?_, ?_, sp, ?_, ?_⟩
  ·show Am.look 3 (zb0 3 _ H.heap) = _
   exact (by (repeat (first | rw [za0, if_pos rfl] | rw [za0, if_neg (by decide)] | rw [za4, if_neg (by decide)])); first | rfl | assumption)
  ·show Am.look j (zb0 3 _ (zb0 3 _ H.heap)) = _
   rw [za0, if_neg (by omega), za0, if_neg (by omega)]
  ·show Am.look 3 (zb0 3 _ _) = _
   rw [za0, if_pos rfl]; rfl
  ·show Am.look 2 (zb0 3 _ (zb0 3 _ H.heap)) = _
   exact (by (repeat (first | rw [za0, if_pos rfl] | rw [za0, if_neg (by decide)] | rw [za4, if_neg (by decide)])); first | rfl | assumption)
  ·show Am.look 0 (zb0 3 _ (zb0 3 _ H.heap)) = _
   rw [hsc]
   exact (by (repeat (first | rw [za0, if_pos rfl] | rw [za0, if_neg (by decide)] | rw [za4, if_neg (by decide)])); first | rfl | assumption)
  ·show Am.look 1 (zb0 3 _ (zb0 3 _ H.heap)) = _
   rw [hsc]
   exact (by (repeat (first | rw [za0, if_pos rfl] | rw [za0, if_neg (by decide)] | rw [za4, if_neg (by decide)])); first | rfl | assumption)
set_option maxHeartbeats 2000000 in
theorem zud (l : List Ex) (hsl : ∀ y ∈ l, Slim y) (e : List Bool) (h1 : 1 ≤ e.length) (h4 : e.length ≤ 4) (hg : zc0 l e.length = 0) :
  PF Try.prog 101 [.agg [.vs (cXs l)], .int .i64 (e.length : Nat), .int .i64 (zcy e : Nat)] (.vs (cSs (zue l e))) := by
 refine zax env0_ok fn101 [(0, .agg [.vs (cXs l)]), (1, .int .i64 (e.length : Nat)), (2, .int .i64 (zcy e : Nat))] (by show 3 ≤ 28; decide) rfl fun w0 N0 => ?_
 unfold ic101
 repeat (first | refine za7 ?_ | refine za5 rfl ?_ | refine zai ?_ | refine za8 ?_ | refine za1 rfl ?_ | refine za6 rfl rfl ?_ | refine zay ?_ | refine zbq rfl rfl ?_)
 refine zas rfl rfl (bits106 _ _) noC ?_
 refine onu (zad ?_)
 refine zf2 [(some (3, 3), [.ms 1 0 2 0 0 none]), (none, [])] [(0, 0, [.vs (cXs l)]), (1, 1, [.int .i64 (e.length : Nat)]), (2, 2, [.int .i64 (zcy e : Nat)])] (l101 l e) rfl (.cons rfl rfl (.cons rfl rfl (.cons rfl rfl .nil))) (.cons rfl (.cons (.grow rfl) .nil) (.new .nil)) (.cons rfl (.fptr rfl rfl) (.cons rfl (.fptr rfl rfl) (.cons rfl (.fptr rfl rfl) (.cons rfl (.mptr rfl) (.cons rfl (.same rfl) .nil))))) ?_
 refine zi1 (.inl rfl) rfl fun ha hb => (range144 h1 h4 (fun i H hi h => yield101 hsl h1 h4 hg ha hb i H hi h) ⟨_, _, _⟩ ⟨y0c _, rfl, rfl, 0, rfl, rfl⟩).mono fun v H2 hF => ?_
 obtain ⟨hK, nx, h3, h2, sp, h0, h1'⟩ := hF
 refine ⟨_, _, .normal, _, _, _, _, _, _, h3, by simp, rfl, fun z hz => ?_, ?_⟩
 ·obtain rfl := y0i.1 hz
  exact (by (repeat (first | rw [za0, if_pos rfl] | rw [za0, if_neg (by decide)] | rw [za4, if_neg (by decide)])); first | rfl | assumption)
 ·refine zb9 (za8 (zsr rfl ?_))
  refine zbw (sp := 0) rfl (by (repeat (first | rw [za0, if_pos rfl] | rw [za0, if_neg (by decide)] | rw [za4, if_neg (by decide)])); first | rfl | assumption) (by omega) rfl ?_
  refine za1 rfl (onu (zaf ?_))
  refine zae ⟨.inr rfl, _, rfl, zpn (d := 3) (zue l e) ?_⟩
  show Am.look 1 (zbo 2 (zbo 3 H2.heap)) = _
  exact (by (repeat (first | rw [za0, if_pos rfl] | rw [za0, if_neg (by decide)] | rw [za4, if_neg (by decide)])); first | rfl | assumption)
theorem cSs_hasM (a : List Sk) : hasM.hasML (cSs a).flatten = false := by
 induction a with
 | nil => rfl
 | cons s a ih =>
  have : (cSs (s :: a)).flatten = .int .i64 s.a :: .bool s.o :: (cSs a).flatten := rfl
  rw [this]
  simp only [hasM.hasML, ih]
  rfl
def zby (n k : Nat) : List Bool := (List.range n).map fun i => k / 2 ^ i % 2 == 1
theorem zcg (n k : Nat) : (zby n k).length = n := by rw [zby, y07, y1x]
theorem zxh : ∀ n ∈ [1, 2, 3, 4], ∀ k ∈ List.range 16, k < 2 ^ n → zcy (zby n k) = k := by decide +kernel
theorem n4 {n : Nat} (h1 : 1 ≤ n) (h4 : n ≤ 4) : n ∈ [1, 2, 3, 4] := by
 rcases (show n = 1 ∨ n = 2 ∨ n = 3 ∨ n = 4 by omega) with rfl | rfl | rfl | rfl <;> simp
theorem pow4 {n : Nat} (h4 : n ≤ 4) : 2 ^ n ≤ 16 := Nat.pow_le_pow_right (by decide) h4
theorem zg3 {n k : Nat} (h1 : 1 ≤ n) (h4 : n ≤ 4) (hk : k < 2 ^ n) : zcy (zby n k) = k :=
 zxh n (n4 h1 h4) k (y10.2 (by have := pow4 h4; omega)) hk
theorem zvr : ∀ e ∈ allE, zcy e < 2 ^ e.length := by decide +kernel
theorem zpz : ∀ e ∈ allE, zby e.length (zcy e) = e := by decide +kernel
theorem zu1 {e : List Bool} (h1 : 1 ≤ e.length) (h4 : e.length ≤ 4) : zcy e < 2 ^ e.length := zvr e (zdt e h1 h4)
theorem zk5 {e : List Bool} (h1 : 1 ≤ e.length) (h4 : e.length ≤ 4) : zby e.length (zcy e) = e := zpz e (zdt e h1 h4)
def nxt (n k i : Nat) : Nat := zcy (zdc (zby n k) i)
theorem zk0 {n k i : Nat} (h1 : 1 ≤ n) (h4 : n ≤ 4) : nxt n k i < 2 ^ n := by
 have := zu1 (e := zdc (zby n k) i) (by rw [zdv, zcg]; exact h1) (by rw [zdv, zcg]; exact h4)
 rwa [zdv, zcg] at this
theorem znz {n k i : Nat} (h1 : 1 ≤ n) (h4 : n ≤ 4) : zby n (nxt n k i) = zdc (zby n k) i := by
 have := zk5 (e := zdc (zby n k) i) (by rw [zdv, zcg]; exact h1) (by rw [zdv, zcg]; exact h4)
 rwa [zdv, zcg] at this
def mv (l : List Ex) (n k : Nat) : List Nat := (List.range n).filter fun i => zrj l (zby n k) i
theorem zzp {l : List Ex} {n k i : Nat} (h : i ∈ mv l n k) : i < n := y10.1 (y1o.1 h).1
theorem zuf (l : List Ex) (n k : Nat) : zue l (zby n k) = (mv l n k).map fun i => ⟨(i : Nat), !((zby n k).getD i false)⟩ := by
 unfold zue zir mv
 rw [zcg]
def push (n k : Nat) (s : List Int × List Nat) (i : Nat) : List Int × List Nat :=
 if s.1.getD (nxt n k i) 0 < 0 then (s.1.set (nxt n k i) (s.1.getD k 0 + 1), s.2 ++ [nxt n k i]) else s
def zfk (l : List Ex) (n k : Nat) (s : List Int × List Nat) : List Int × List Nat := (mv l n k).foldl (push n k) s
def bfs (l : List Ex) (n : Nat) : Nat → List Int × List Nat → List Int
 | 0, s => s.1
 | _ + 1, (out, []) => out
 | f + 1, (out, k :: q) => bfs l n f (zfk l n k (out, q))
def zn0 (l : List Ex) (n : Nat) : List Int := if zds l (zdn (zby n 0)) then bfs l n (2 ^ n + 1) ((List.replicate (2 ^ n) (-1)).set 0 0, [0]) else List.replicate (2 ^ n) (-1)
def zeq (out : List Int) : Nat := (out.filter fun v => v < 0).length
theorem zuj {v : Int} (hv : 0 ≤ v) : ∀ (out : List Int) (y : Nat), out.getD y 0 < 0 → zeq (out.set y v) + 1 = zeq out
 | [], y, h => by simp at h
 | a :: out, 0, h => by
  have h : a < 0 := by simpa using h
  unfold zeq
  rw [List.set_cons_zero, y1n, y1n, if_neg (by simpa using hv), if_pos (by simpa using h)]
  rfl
 | a :: out, y + 1, h => by
  have h : out.getD y 0 < 0 := by simpa using h
  have ih := zuj hv out y h
  unfold zeq at ih ⊢
  rw [List.set_cons_succ, y1n, y1n]
  split
  ·simp only [y0m]; omega
  ·exact ih
structure BI (n : Nat) (s : List Int × List Nat) : Prop where
 len : s.1.length = 2 ^ n
 q : ∀ y ∈ s.2, y < 2 ^ n ∧ 0 ≤ s.1.getD y 0
 lo : ∀ v ∈ s.1, -1 ≤ v
 hi : ∀ v ∈ s.1, v + zeq s.1 + 1 ≤ ((2 ^ n : Nat) : Int)
 ql : s.2.length ≤ 2 ^ n
theorem zk9 {out : List Int} {y : Nat} (h : y < out.length) : out.getD y 0 ∈ out := by
 rw [y08, y06 h]
 exact y0r h
theorem zeb {out : List Int} {y z : Nat} {v : Int} (hy : y < out.length) : (out.set y v).getD z 0 = if y = z then v else out.getD z 0 := by
 simp only [y08, List.getElem?_set]
 split
 ·rename_i h; subst h; simp
 ·rfl
theorem zpa {n k i : Nat} (h1 : 1 ≤ n) (h4 : n ≤ 4) (hk : k < 2 ^ n) {s : List Int × List Nat} (h : BI n s) (hk0 : 0 ≤ s.1.getD k 0) (hm : s.2.length + zeq s.1 ≤ 2 ^ n) :
  BI n (push n k s i) ∧ 0 ≤ (push n k s i).1.getD k 0 ∧ (push n k s i).2.length + zeq (push n k s i).1 = s.2.length + zeq s.1 := by
 unfold push
 split
 ·rename_i hn
  have hy := zk0 (k := k) (i := i) h1 h4
  have hyl : nxt n k i < s.1.length := by rw [h.len]; exact hy
  have hkm := zk9 (y := k) (by rw [h.len]; exact hk)
  have hv : (0 : Int) ≤ s.1.getD k 0 + 1 := by omega
  have hneg := zuj hv s.1 (nxt n k i) hn
  have hki := h.hi _ hkm
  refine ⟨⟨by rw [y1i]; exact h.len, fun y hy' => ?_, fun v hv' => ?_, fun v hv' => ?_, ?_⟩, ?_, ?_⟩
  ·rcases List.mem_append.1 hy' with hq | hq
   ·have := h.q y hq
    refine ⟨this.1, ?_⟩
    rw [zeb hyl]
    split
    ·exact hv
    ·exact this.2
   ·obtain rfl := y0i.1 hq
    refine ⟨hy, ?_⟩
    rw [zeb hyl, if_pos rfl]
    exact hv
  ·rcases List.mem_or_eq_of_mem_set hv' with hq | hq
   ·exact h.lo v hq
   ·omega
  ·show v + ((zeq (s.1.set _ _) : Nat) : Int) + 1 ≤ _
   rcases List.mem_or_eq_of_mem_set hv' with hq | hq
   ·have := h.hi v hq; omega
   ·omega
  ·show (s.2 ++ [nxt n k i]).length ≤ _
   rw [y0j, y17]
   omega
  ·show 0 ≤ (s.1.set (nxt n k i) (s.1.getD k 0 + 1)).getD k 0
   rw [zeb hyl]
   split
   ·exact hv
   ·exact hk0
  ·show (s.2 ++ [nxt n k i]).length + zeq (s.1.set (nxt n k i) (s.1.getD k 0 + 1)) = _
   rw [y0j, y17]
   omega
 ·exact ⟨h, hk0, rfl⟩
-- (*pneumatic/homing.queue[int]).put
def ic141 : IC := .region [oT 4 0,
  oT 5 0,
  oM 6 (.nilchk (.t 5)),
  oF 7 0 6,
  oN 8 7,
  oT 9 1,
  oM 10 (.bslice 1 1 [.int .i64 0] [(0, 1, (.t 9))]),
  oM 11 (.append 1 8 [.int .i64 0] (.t 8) (.t 10)),
  oM 12 (.nilchk (.t 4)),
  oF 13 0 12,
  ⟨none, .store 1 (.t 13) (.t 11), none⟩] none
theorem fn141 : env0.fn 141 = some ⟨14, ic141, []⟩ := by kernel_rfl
theorem put141 {w0 : World} {N0 a sa : Nat} {qid sq off len : Nat} {cs : List AV} (x : Int) (H : HS) (ha : Am.look a H.heap = some (sa, .cells [.ms qid sq 1 off len none])) (hn : a < H.next) (hq : Am.look qid H.heap = some (sq, .cells cs)) (hne : a ≠ qid) (h1 : off + len ≤ cs.length) (h2 : len + 1 ≤ 1048576) :
  FT Try.prog w0 N0 141 [.mptr a sa 0, .int .i64 x] H fun _ H' => H' = ⟨zb0 a (sa, .cells [.ms qid H.clk 1 0 (len + 1) none]) (zb0 qid (H.clk, .cells ((cs.drop off).take len ++ [.int .i64 x])) H.heap), H.next, H.clk + 1⟩ := by
 refine zfe env0_ok fn141 [(0, .mptr a sa 0), (1, .int .i64 x)] (by show 2 ≤ 14; decide) rfl ?_
 unfold ic141
 refine za5 rfl (za1 rfl (za1 rfl (zk1 rfl (za9 rfl ?_))))
 refine zbw (sp := sa) rfl ha hn rfl ?_
 refine za1 rfl ?_
 refine zvy [[.int .i64 x]] rfl rfl rfl rfl ?_
 refine zqr [[.int .i64 x]] rfl rfl rfl (fun h => Nat.noConfusion h) rfl (by decide) hq (by rw [Nat.mul_one]; exact h1) h2 ?_
 refine zk1 rfl (za9 rfl ?_)
 refine zah (sp := sa) rfl rfl rfl rfl (by rw [za0, if_neg (fun e => hne e.symm)]; exact ha) rfl rfl ?_
 refine zai ?_
 refine zae ⟨.inl rfl, _, rfl, ?_⟩
 rw [Nat.mul_one]
 rfl
theorem put141n {w0 : World} {N0 a sa : Nat} (x : Int) (H : HS) (ha : Am.look a H.heap = some (sa, .cells [.nils])) (hn : a < H.next) :
  FT Try.prog w0 N0 141 [.mptr a sa 0, .int .i64 x] H fun _ H' => H' = ⟨zb0 a (sa, .cells [.ms H.next H.clk 1 0 1 none]) ((H.next, H.clk, .cells [.int .i64 x]) :: H.heap), H.next + 1, H.clk + 1⟩ := by
 refine zfe env0_ok fn141 [(0, .mptr a sa 0), (1, .int .i64 x)] (by show 2 ≤ 14; decide) rfl ?_
 unfold ic141
 refine za5 rfl (za1 rfl (za1 rfl (zk1 rfl (za9 rfl ?_))))
 refine zbw (sp := sa) rfl ha hn rfl ?_
 refine za1 rfl ?_
 refine zvy [[.int .i64 x]] rfl rfl rfl rfl ?_
 refine zp1 rfl rfl rfl rfl (zk1 rfl (za9 rfl ?_))
 refine zah (sp := sa) rfl rfl rfl rfl (by show Am.look a ((H.next, _, _) :: H.heap) = _; rw [za3, if_neg (by omega)]; exact ha) rfl rfl ?_
 refine zai ?_
 exact zae ⟨.inl rfl, _, rfl, rfl⟩
-- (*pneumatic/homing.queue[int]).all
def ic142 : IC := .seq (.region [oM 1 (.box (.t 0)),
  oM 2 (.mov (.c (.nilf)))] none)
 (.seq (.region [oM 3 (.mkfn 161 [] [(.t 1)]),
  oT 2 3] none)
 (.ret))
theorem fn142 : env0.fn 142 = some ⟨4, ic142, [.t 2]⟩ := by kernel_rfl
theorem all142 {w0 : World} {N0 a sa : Nat} (H : HS) : FT Try.prog w0 N0 142 [.mptr a sa 0] H fun v H' => v = .fn 161 [] [.mptr H.next H.clk 0] ∧ H' = ⟨(H.next, H.clk, .cells [.mptr a sa 0]) :: H.heap, H.next + 1, H.clk + 1⟩ := by
 refine zfe env0_ok fn142 [(0, .mptr a sa 0)] (by show 1 ≤ 4; decide) rfl ?_
 unfold ic142
 refine zsr rfl (zbq rfl rfl (za1 rfl (onr rfl (zgw rfl rfl (za1 rfl (onu (zaf ?_)))))))
 exact zae ⟨.inr rfl, _, rfl, rfl, rfl⟩
noncomputable def zq1 : Code := match env0.fn 96 with
 | some i => ((zc1 i.ic)[0]?.getD (.skip, .skip)).1
 | none => .skip
noncomputable def zq3 : Code := match env0.fn 96 with
 | some i => ((zc1 i.ic)[0]?.getD (.skip, .skip)).2
 | none => .skip
def b96_2 : IC := .seq (.region [oM 36 (.bin .lss (.t 35) (.t 34))] none)
 (.seq (.cond (.t 36) (.skip)
 (.exit 2))
 (.seq (.block 3 (.seq (.region [oM 37 (.idxs 2 (.t 33) (.t 35)),
  oL 38 2 37,
  oM 9 (.alloc [.int .i64 0, .bool false]),
  ⟨none, .store 2 (.t 9) (.t 38), none⟩] none)
 (.seq (.region [oT 39 7,
  oF 40 0 9,
  oN 41 40,
  oM 42 (.bin .shl (.c (.int .i64 1)) (.t 41)),
  oM 43 (.bin .xor (.t 39) (.t 42)),
  oT 10 43] none)
 (.seq (.region [oN 44 5,
  oT 45 10,
  oM 46 (.idxs 1 (.t 44) (.t 45)),
  oN 47 46,
  oM 48 (.bin .lss (.t 47) (.c (.int .i64 0)))] none)
 (.cond (.t 48) (.seq (.region [oN 49 5,
  oT 50 10,
  oN 51 5,
  oT 52 7,
  oM 53 (.idxs 1 (.t 51) (.t 52)),
  oN 54 53,
  oM 55 (.bin .add (.t 54) (.c (.int .i64 1))),
  oM 56 (.idxs 1 (.t 49) (.t 50)),
  ⟨none, .store 1 (.t 56) (.t 55), none⟩] (some [[], [], [], [], [2, 3], [4], [5], [0, 1, 0, 1, 2, 3, 4, 5, 6], [7, 6, 0, 1, 2, 3, 4, 5, 6]]))
 (.region [oN 57 6,
  oT 58 10,
  oM 59 (.call (.c (.fn 141 [] [])) [(.t 57), (.t 58)])] none))
 (.skip))))))
 (.region [oM 60 (.bin .add (.t 35) (.c (.int .i64 1))),
  oT 35 60] none)))
def zrp : IC := .region [oT 7 29] none
def ya8 : IC := .block 1 (.seq (.region [oL 30 1 2,
  oN 31 3,
  oT 32 7,
  oM 33 (.call (.c (.fn 101 [] [])) [(.t 30), (.t 31), (.t 32)]),
  oM 34 (.len false (.t 33)),
  oM 35 (.mov (.c (.int .i64 0)))] none)
 (.block 2 (.loop b96_2)))
-- pneumatic/homing.levels
noncomputable def ic96 : IC := .seq (.region [oM 2 (.box (.t 0)),
  oM 3 (.box (.t 1)),
  oM 4 (.mov (.c (.nils)))] none)
 (.seq (.region [oM 11 (.bslice 1 1 [.int .i64 0] [(0, 1, (.c (.int .i64 (-1))))]),
  oN 12 3,
  oM 13 (.bin .shl (.c (.int .i64 1)) (.t 12)),
  oM 14 (.call (.c (.fn 81 [] [])) [(.t 11), (.t 13)]),
  oM 5 (.alloc [.nils]),
  ⟨none, .store 1 (.t 5) (.t 14), none⟩] none)
 (.seq (.seq (.region [oL 15 1 2,
  oN 16 3,
  oM 17 (.call (.c (.fn 95 [] [])) [(.t 16), (.c (.int .i64 0))]),
  oM 18 (.call (.c (.fn 94 [] [])) [(.t 15), (.t 17)]),
  oM 19 (.un .not (.t 18))] (some [[], [], [1], [0, 2, 2], [3]]))
 (.cond (.t 19) (.seq (.region [oN 20 5,
  oT 4 20] none)
 (.ret))
 (.skip)))
 (.seq (.region [oN 21 5,
  oM 22 (.idxs 1 (.t 21) (.c (.int .i64 0))),
  ⟨none, .store 1 (.t 22) (.c (.int .i64 0)), none⟩] none)
 (.seq (.region [oM 23 (.build [.nils] []),
  oM 24 (.box (.t 23)),
  oM 6 (.alloc [.nilp]),
  ⟨none, .store 1 (.t 6) (.t 24), none⟩] none)
 (.seq (.region [oN 25 6,
  oM 26 (.call (.c (.fn 141 [] [])) [(.t 25), (.c (.int .i64 0))])] none)
 (.seq (.seq (.region [oN 27 6,
  oM 28 (.call (.c (.fn 142 [] [])) [(.t 27)])] none)
 (.block 0 (.rangeFunc (.t 28) [29] zq1 zq3 zrp ya8)))
 (.seq (.region [oN 61 5,
  oT 4 61] none)
 (.ret))))))))
theorem fn96 : env0.fn 96 = some ⟨62, ic96, [.t 4]⟩ := by kernel_rfl
def kI (k : Nat) : AV := .int .i64 (k : Nat)
structure QS (N : Nat) (stt : LoopState) (ltm : List (Nat × AV)) (out : List Int) (q : List Nat) (H : HS) : Prop where
 nx : 8 ≤ H.next
 h7 : Am.look 7 H.heap = some (2, .loop stt none 62 (zdh ltm) [29] zq1 zq3 (6, 1))
 h6 : Am.look 6 H.heap = some (1, .deferred)
 h0 : Am.look 0 H.heap = some (0, .cells [.ms 1 0 1 0 N (some N)])
 h1 : Am.look 1 H.heap = some (0, .cells (out.map (AV.int .i64)))
 h2 : Am.look 2 H.heap = some (0, .cells [.mptr 3 0 0])
 h5 : Am.look 5 H.heap = some (0, .cells [.mptr 3 0 0])
 hq : ∃ sq off cs, Am.look 3 H.heap = some (0, .cells [.ms 4 sq 1 off q.length none]) ∧ Am.look 4 H.heap = some (sq, .cells cs) ∧ off + q.length ≤ cs.length ∧ (cs.drop off).take q.length = q.map kI
-- (*pneumatic/homing.queue[int]).all$1
def ic161 : IC := .block 0 (.loop (.seq (.seq (.region [oN 4 1,
  oM 5 (.nilchk (.t 4)),
  oF 6 0 5,
  oN 7 6,
  oM 8 (.len false (.t 7)),
  oM 9 (.bin .gtr (.t 8) (.c (.int .i64 0)))] none)
 (.cond (.t 9) (.skip)
 (.exit 0)))
 (.block 1 (.seq (.region [oN 10 1,
  oM 11 (.nilchk (.t 10)),
  oF 12 0 11,
  oN 13 12,
  oM 14 (.idxs 1 (.t 13) (.c (.int .i64 0))),
  oN 15 14,
  oT 3 15] none)
 (.seq (.region [oN 16 1,
  oN 17 1,
  oM 18 (.nilchk (.t 17)),
  oF 19 0 18,
  oN 20 19,
  oM 21 (.slsl 1 (.t 20) (some (.c (.int .i64 1))) none none),
  oM 22 (.nilchk (.t 16)),
  oF 23 0 22,
  ⟨none, .store 1 (.t 23) (.t 21), none⟩] (some [[], [], [1], [2], [3], [4], [0, 0, 1, 2, 3, 4, 5], [6, 0, 1, 2, 3, 4, 5], [7, 5, 0, 1, 2, 3, 4, 5]]))
 (.seq (.region [oT 24 0,
  oT 25 3,
  oM 26 (.call (.t 24) [(.t 25)]),
  oM 27 (.un .not (.t 26))] none)
 (.cond (.t 27) (.ret)
 (.skip))))))))
theorem fn161 : env0.fn 161 = some ⟨28, ic161, []⟩ := by kernel_rfl
theorem zwl {n k : Nat} {out : List Int} {q : List Nat} (h : BI n (out, k :: q)) : BI n (out, q) ∧ k < 2 ^ n ∧ 0 ≤ out.getD k 0 :=
 ⟨⟨h.len, fun y hy => h.q y (y04 _ hy), h.lo, h.hi, by have := h.ql; simp only [y0m] at this; show q.length ≤ _; omega⟩, h.q k (y05 ..)⟩
theorem zkq {l : List Ex} {n k : Nat} (h1 : 1 ≤ n) (h4 : n ≤ 4) (hk : k < 2 ^ n) : ∀ (ms : List Nat) (s : List Int × List Nat), BI n s → 0 ≤ s.1.getD k 0 → s.2.length + zeq s.1 ≤ 2 ^ n →
  BI n (ms.foldl (push n k) s) ∧ (ms.foldl (push n k) s).2.length + zeq (ms.foldl (push n k) s).1 = s.2.length + zeq s.1
 | [], s, h, _, _ => ⟨h, rfl⟩
 | i :: ms, s, h, h0, hm => by
  obtain ⟨a, b, c⟩ := zpa (i := i) h1 h4 hk h h0 hm
  obtain ⟨d, e⟩ := zkq (l := l) h1 h4 hk ms _ a b (by omega)
  exact ⟨d, e.trans c⟩
set_option maxHeartbeats 4000000 in
theorem range161 {w0 : World} {N0 n : Nat} {l : List Ex} {ltm : List (Nat × AV)} (h1 : 1 ≤ n) (h4 : n ≤ 4)
  (hy : ∀ (out : List Int) (k : Nat) (q : List Nat) (H : HS), BI n (out, q) → k < 2 ^ n → 0 ≤ out.getD k 0 → q.length + zeq out ≤ 2 ^ n → QS (2 ^ n) .ready ltm out q H →
   CT Try.prog w0 N0 (.yield 7 2) [.int .i64 (k : Nat)] H fun v H' => v = .bool true ∧ Keep (fun j => j < 8) H H' ∧ QS (2 ^ n) .ready ltm (zfk l n k (out, q)).1 (zfk l n k (out, q)).2 H')
  (H : HS) (zgj : List Int) (q0 : List Nat) (f : Nat) (hI : QS (2 ^ n) .ready ltm zgj q0 H) (hB : BI n (zgj, q0)) (hm : q0.length + zeq zgj ≤ 2 ^ n) (hf : q0.length + zeq zgj < f) :
  FT Try.prog w0 N0 161 [.yield 7 2, .mptr 5 0 0] H fun _ H' => Keep (fun j => j < 8) H H' ∧ ∃ q', QS (2 ^ n) .ready ltm (bfs l n f (zgj, q0)) q' H' := by
 refine zfe env0_ok fn161 [(0, .yield 7 2), (1, .mptr 5 0 0)] (by show 2 ≤ 28; decide) rfl ?_
 unfold ic161
 refine zad ?_
 refine zbj (fun mm S => ∃ out q H' f', mm = q.length + zeq out ∧ mm < f' ∧ BI n (out, q) ∧ mm ≤ 2 ^ n ∧ bfs l n f (zgj, q0) = bfs l n f' (out, q) ∧ QS (2 ^ n) .ready ltm out q H' ∧ Keep (fun j => j < 8) H H' ∧
   S = st 28 [(0, .yield 7 2), (1, .mptr 5 0 0)] H'.heap H'.next H'.clk) (q0.length + zeq zgj)
  (zaq (.cons rfl (.cons rfl .nil))) ⟨zgj, q0, H, f, rfl, hf, hB, hm, rfl, hI, Keep.refl _ H, rfl⟩ ?_
 rintro mm S ⟨out, q, H', f', rfl, hf', hB', hm', hbf, hI', hK', rfl⟩
 obtain ⟨nx, h7, h6, g0, g1, g2, g5, sq, off, cs, g3, gq, hlen, hcs⟩ := hI'
 refine za7 (zsr rfl ?_)
 refine zbw (sp := 0) rfl g5 (by omega) rfl ?_
 refine zk1 rfl (za9 rfl ?_)
 refine zbw (sp := 0) rfl g3 (by omega) rfl ?_
 refine zbb rfl rfl ?_
 cases q with
 | nil =>
  refine zao rfl rfl rfl (fun h => absurd h (by simp)) fun _ => ?_
  refine onu (zb5 rfl (zbi (zan ?_)))
  refine zc9 ?_
  refine zbh ?_
  refine zae ⟨.inl rfl, _, rfl, hK', [], ?_⟩
  obtain ⟨f2, rfl⟩ : ∃ f2, f' = f2 + 1 := ⟨f' - 1, by omega⟩
  rw [hbf, bfs]
  exact ⟨nx, h7, h6, g0, g1, g2, g5, sq, off, cs, g3, gq, hlen, hcs⟩
 | cons k q =>
  refine zao rfl rfl rfl (fun _ => ?_) fun h => absurd h (by simp)
  obtain ⟨hBp, hk, hk0⟩ := zwl hB'
  have hl1 : off + (q.length + 1) ≤ cs.length := hlen
  have hhd : cs[off + (0 : Int).toNat * 1]? = some (.int .i64 (k : Nat)) := by
   have e : ((cs.drop off).take (k :: q).length)[0]? = some (kI k) := by rw [hcs]; rfl
   rw [List.getElem?_take, if_pos (by simp), y12] at e
   exact e
  refine onu (zb2 rfl (zab (za8 (zad (zsr rfl ?_)))))
  refine zbw (sp := 0) rfl g5 (by omega) rfl ?_
  refine zk1 rfl (za9 rfl ?_)
  refine zbw (sp := 0) rfl g3 (by omega) rfl ?_
  refine zb7 rfl rfl (by decide) (by simp only [y0m]; omega) ?_
  refine zhs rfl gq (by omega) hhd ?_
  refine za1 rfl (onu (za7 (zdo env0_ok rfl rfl rfl ?_)))
  refine zbw (sp := 0) rfl g5 (by omega) rfl ?_
  refine zbw (sp := 0) rfl g5 (by omega) rfl ?_
  refine zk1 rfl (za9 rfl ?_)
  refine zbw (sp := 0) rfl g3 (by omega) rfl ?_
  refine o_slsl rfl rfl rfl rfl rfl (by decide) (by simp only [y0m]; omega) (y2i _) ?_
  refine zk1 rfl (za9 rfl ?_)
  refine zah (sp := 0) rfl rfl rfl rfl g3 rfl rfl ?_
  refine onr rfl (za1 rfl (za1 rfl ?_))
  simp only [y0m] at hf' hm'
  refine zuk _ rfl rfl (hy out k q ⟨_, _, _⟩ hBp hk hk0 (by omega) ⟨nx, (by (repeat (first | rw [za0, if_pos rfl] | rw [za0, if_neg (by decide)] | rw [za4, if_neg (by decide)])); all_goals (first | rfl | assumption)), (by (repeat (first | rw [za0, if_pos rfl] | rw [za0, if_neg (by decide)] | rw [za4, if_neg (by decide)])); all_goals (first | rfl | assumption)), (by (repeat (first | rw [za0, if_pos rfl] | rw [za0, if_neg (by decide)] | rw [za4, if_neg (by decide)])); all_goals (first | rfl | assumption)), (by (repeat (first | rw [za0, if_pos rfl] | rw [za0, if_neg (by decide)] | rw [za4, if_neg (by decide)])); all_goals (first | rfl | assumption)), (by (repeat (first | rw [za0, if_pos rfl] | rw [za0, if_neg (by decide)] | rw [za4, if_neg (by decide)])); all_goals (first | rfl | assumption)), (by (repeat (first | rw [za0, if_pos rfl] | rw [za0, if_neg (by decide)] | rw [za4, if_neg (by decide)])); all_goals (first | rfl | assumption)), sq, off + 1, cs, ?_, (by (repeat (first | rw [za0, if_pos rfl] | rw [za0, if_neg (by decide)] | rw [za4, if_neg (by decide)])); all_goals (first | rfl | assumption)), by omega, ?_⟩) (fun _ _ _ _ hm => absurd hm y0f) fun v2 H3 hF3 => ?_
  ·show Am.look 3 (zb0 3 _ H'.heap) = _
   rw [za0, if_pos rfl]
   have e : ((q.length + 1 : Nat) : Int).toNat - (1 : Int).toNat = q.length := by omega
   show some (0, AObj.cells [.ms 4 sq 1 (off + 1) (((q.length + 1 : Nat) : Int).toNat - (1 : Int).toNat) none]) = _
   rw [e]
  ·have e : ((cs.drop off).take (q.length + 1)).drop 1 = (q.map kI) := by
    have := congrArg (List.drop 1) hcs
    exact this
   rw [List.drop_take, List.drop_drop] at e
   exact e
  obtain ⟨rfl, hK3, hI3⟩ := hF3
  obtain ⟨hv1, hv2⟩ := zkq (l := l) h1 h4 hk (mv l n k) (out, q) hBp hk0 (by show q.length + zeq out ≤ _; omega)
  obtain ⟨f2, rfl⟩ : ∃ f2, f' = f2 + 1 := ⟨f' - 1, by omega⟩
  have hvm : (zfk l n k (out, q)).2.length + zeq (zfk l n k (out, q)).1 = q.length + zeq out := hv2
  have hKK : Keep (fun j => j < 8) H H3 := by
   refine Keep.trans (H' := ⟨zb0 3 (0, AObj.cells (setAt 0 [AV.ms 4 sq 1 off (q.length + 1) none] [.ms 4 sq 1 (off + (1 : Int).toNat * 1) (((q.length + 1 : Nat) : Int).toNat - (1 : Int).toNat) none])) H'.heap, H'.next, H'.clk⟩) ?_ hK3
   refine ⟨hK'.next, hK'.clk, fun j hj hj2 => ?_⟩
   show Am.look j (zb0 3 _ H'.heap) = _
   rw [za0, if_neg (by omega)]
   exact hK'.look j hj hj2
  refine zes rfl rfl (onu (zb5 rfl (zab (zb9 ?_))))
  exact zat (show (zfk l n k (out, q)).2.length + zeq (zfk l n k (out, q)).1 < (k :: q).length + zeq out by rw [hvm, y0m]; omega) (zaq (.cons rfl (.cons rfl .nil))) ⟨_, _, H3, f2, rfl, by omega, hv1, by omega, hbf, hI3, hKK, rfl⟩
def l96 (l : List Ex) (n : Nat) : List (Nat × AV) := [(2, .vptr [.vs (cXs l)]), (3, .vptr [.int .i64 (n : Nat)]), (5, .mptr 0 0 0), (6, .mptr 2 0 0), (28, .fn 161 [] [.mptr 5 0 0])]
set_option maxHeartbeats 8000000 in
theorem yield96 {w0 : World} {N0 n : Nat} {l : List Ex} (hsl : ∀ y ∈ l, Slim y) (h1 : 1 ≤ n) (h4 : n ≤ 4) (hg : zc0 l n = 0) (ha : Com Try.prog zq1 zrp) (hb : Com Try.prog zq3 ya8)
  (out : List Int) (k : Nat) (q : List Nat) (H : HS) (hBI : BI n (out, q)) (hk : k < 2 ^ n) (hk0 : 0 ≤ out.getD k 0) (hm : q.length + zeq out ≤ 2 ^ n) (hQ : QS (2 ^ n) .ready (l96 l n) out q H) :
  CT Try.prog w0 N0 (.yield 7 2) [.int .i64 (k : Nat)] H fun v H' => v = .bool true ∧ Keep (fun j => j < 8) H H' ∧ QS (2 ^ n) .ready (l96 l n) (zfk l n k (out, q)).1 (zfk l n k (out, q)).2 H' := by
 obtain ⟨nx, h7, h6, g0, g1, g2, g5, hq⟩ := hQ
 have hbl := zcg n k
 have hib := zg3 h1 h4 hk
 have hmv := zud l hsl (zby n k) (by rw [hbl]; exact h1) (by rw [hbl]; exact h4) (by rw [hbl]; exact hg)
 rw [hbl, hib, zuf] at hmv
 have hml : (cSs ((mv l n k).map fun i => ⟨(i : Nat), !((zby n k).getD i false)⟩)).length = (mv l n k).length := by rw [zbe, y07]
 have hmn : (mv l n k).length ≤ n := by
  have := List.length_filter_le (fun i => zrj l (zby n k) i) (List.range n)
  rwa [y1x] at this
 have hp4 := pow4 h4
 refine zic (l0 := (29, .int .i64 (k : Nat)) :: l96 l n) h7 ha hb rfl (by decide) rfl ?_
 unfold zrp
 refine za5 rfl (za1 rfl (zai ?_))
 refine zae ⟨rfl, _, rfl, ?_⟩
 unfold ya8 l96
 refine zad (zsr rfl (zal rfl rfl rfl rfl (za6 rfl rfl (za1 rfl ?_))))
 refine zas rfl rfl hmv noC ?_
 refine zbb rfl rfl (za1 rfl (onu (zad ?_)))
 rw [hml]
 refine zbj (fun mm S => ∃ j out' q' H', mm = (mv l n k).length - j ∧ j ≤ (mv l n k).length ∧ zfk l n k (out, q) = ((mv l n k).drop j).foldl (push n k) (out', q') ∧ BI n (out', q') ∧ 0 ≤ out'.getD k 0 ∧ q'.length + zeq out' ≤ 2 ^ n ∧
   QS (2 ^ n) .busy (l96 l n) out' q' H' ∧ Keep (fun j => j < 8) H H' ∧
   S = st 62 [(5, .mptr 0 0 0), (6, .mptr 2 0 0), (7, .int .i64 (k : Nat)), (33, .vs (cSs ((mv l n k).map fun i => ⟨(i : Nat), !((zby n k).getD i false)⟩))), (34, .int .i64 ((mv l n k).length : Nat)), (35, .int .i64 (j : Nat))] H'.heap H'.next H'.clk) (mv l n k).length
  (zaq (l' := [(5, .mptr 0 0 0), (6, .mptr 2 0 0), (7, .int .i64 (k : Nat)), (33, .vs (cSs ((mv l n k).map fun i => ⟨(i : Nat), !((zby n k).getD i false)⟩))), (34, .int .i64 ((mv l n k).length : Nat)), (35, .int .i64 ((0 : Nat) : Int))]) (.cons rfl (.cons rfl (.cons rfl (.cons rfl (.cons rfl (.cons rfl .nil)))))))
  ⟨0, out, q, ⟨zb0 7 (2, .loop .busy none 62 (zdh (l96 l n)) [29] zq1 zq3 (6, 1)) H.heap, H.next, H.clk⟩, rfl, y0q _, rfl, hBI, hk0, hm, ⟨nx, by show Am.look 7 (zb0 7 _ _) = _; rw [za0, if_pos rfl], (by (repeat (first | rw [za0, if_pos rfl] | rw [za0, if_neg (by decide)] | rw [za4, if_neg (by decide)])); all_goals (first | rfl | assumption)), (by (repeat (first | rw [za0, if_pos rfl] | rw [za0, if_neg (by decide)] | rw [za4, if_neg (by decide)])); all_goals (first | rfl | assumption)), (by (repeat (first | rw [za0, if_pos rfl] | rw [za0, if_neg (by decide)] | rw [za4, if_neg (by decide)])); all_goals (first | rfl | assumption)), (by (repeat (first | rw [za0, if_pos rfl] | rw [za0, if_neg (by decide)] | rw [za4, if_neg (by decide)])); all_goals (first | rfl | assumption)), (by (repeat (first | rw [za0, if_pos rfl] | rw [za0, if_neg (by decide)] | rw [za4, if_neg (by decide)])); all_goals (first | rfl | assumption)), ?_⟩, ⟨y0c _, y0c _, fun j hj _ => ?_⟩, rfl⟩ ?_
 ·obtain ⟨sq, off, cs, a, b, c⟩ := hq
  exact ⟨sq, off, cs, (by (repeat (first | rw [za0, if_pos rfl] | rw [za0, if_neg (by decide)] | rw [za4, if_neg (by decide)])); all_goals (first | rfl | assumption)), (by (repeat (first | rw [za0, if_pos rfl] | rw [za0, if_neg (by decide)] | rw [za4, if_neg (by decide)])); all_goals (first | rfl | assumption)), c⟩
 ·show Am.look j (zb0 7 _ H.heap) = _
  rw [za0, if_neg (by omega)]
 rintro mm S ⟨j, out', q', H', rfl, hj, hvis, hB', hk0', hm', hQ', hK', rfl⟩
 obtain ⟨nx', i7, i6, i0, i1, i2, i5, sq, off, cs, i3, iq, hlen, hcs⟩ := hQ'
 unfold b96_2
 refine zsr rfl ?_
 refine zao rfl rfl rfl (fun h3 => ?_) fun h3 => ?_
 ·have hlt : j < (mv l n k).length := by
   have := of_decide_eq_true h3
   omega
  have hi := zzp (y0r hlt)
  rw [y0d hlt, List.foldl_cons] at hvis
  have hge : (cSs ((mv l n k).map fun i => ⟨(i : Nat), !((zby n k).getD i false)⟩))[((j : Nat) : Int).toNat]? = some [.int .i64 ((mv l n k)[j] : Nat), .bool (!((zby n k).getD (mv l n k)[j] false))] := by
   have := zd4 (l := (mv l n k).map fun i => (⟨(i : Nat), !((zby n k).getD i false)⟩ : Sk)) (i := j) (by rw [y07]; exact hlt)
   rw [List.getElem_map] at this
   exact this
  generalize (mv l n k)[j] = i at hi hvis hge
  have hy := zk0 (k := k) (i := i) h1 h4
  have hx := xorE (e := zby n k) (by rw [hbl]; exact h1) (by rw [hbl]; exact h4) (by rw [hbl]; exact hi)
  rw [hib, show zcy (zdc (zby n k) i) = nxt n k i from rfl] at hx
  have hol := hB'.len
  have hol : out'.length = 2 ^ n := hol
  have hgy : (out'.map (AV.int .i64))[0 + ((nxt n k i : Nat) : Int).toNat * 1]? = some (.int .i64 (out'.getD (nxt n k i) 0)) := by
   rw [show 0 + ((nxt n k i : Nat) : Int).toNat * 1 = nxt n k i from by omega, y0h, y08, y06 (by omega)]
   rfl
  have hgk : (out'.map (AV.int .i64))[0 + ((k : Nat) : Int).toNat * 1]? = some (.int .i64 (out'.getD k 0)) := by
   rw [show 0 + ((k : Nat) : Int).toNat * 1 = k from by omega, y0h, y08, y06 (by omega)]
   rfl
  have hp := zpa (i := i) h1 h4 hk hB' hk0' hm'
  refine onu (za7 (zb2 rfl (zab (za8 (za7 (zad (zsr rfl (zba rfl rfl (by omega) (by assumption) rfl (zal rfl rfl rfl rfl (zay ?_))))))))))
  refine zah (sp := H'.clk) rfl rfl rfl rfl zav rfl rfl ?_
  rw [zc3]
  refine onr rfl (za1 rfl (za9 rfl ?_))
  refine zbw (sp := H'.clk) rfl zav (y0n _) rfl ?_
  refine zb3 (op := .shl) rfl rfl (shl1 (show i < 4 by omega)) ?_
  refine zb3 (op := .xor) rfl rfl hx ?_
  refine za1 rfl (onr rfl ?_)
  have z0 := (zb1 (v := (H'.clk, AObj.cells [.int .i64 (i : Nat), .bool (!((zby n k).getD i false))])) (hp := H'.heap) (show 0 < H'.next by omega)).trans i0
  have z1 := (zb1 (v := (H'.clk, AObj.cells [.int .i64 (i : Nat), .bool (!((zby n k).getD i false))])) (hp := H'.heap) (show 1 < H'.next by omega)).trans i1
  have z2 := (zb1 (v := (H'.clk, AObj.cells [.int .i64 (i : Nat), .bool (!((zby n k).getD i false))])) (hp := H'.heap) (show 2 < H'.next by omega)).trans i2
  have z3 := (zb1 (v := (H'.clk, AObj.cells [.int .i64 (i : Nat), .bool (!((zby n k).getD i false))])) (hp := H'.heap) (show 3 < H'.next by omega)).trans i3
  have z4 := (zb1 (v := (H'.clk, AObj.cells [.int .i64 (i : Nat), .bool (!((zby n k).getD i false))])) (hp := H'.heap) (show 4 < H'.next by omega)).trans iq
  have z5 := (zb1 (v := (H'.clk, AObj.cells [.int .i64 (i : Nat), .bool (!((zby n k).getD i false))])) (hp := H'.heap) (show 5 < H'.next by omega)).trans i5
  have z6 := (zb1 (v := (H'.clk, AObj.cells [.int .i64 (i : Nat), .bool (!((zby n k).getD i false))])) (hp := H'.heap) (show 6 < H'.next by omega)).trans i6
  have z7 := (zb1 (v := (H'.clk, AObj.cells [.int .i64 (i : Nat), .bool (!((zby n k).getD i false))])) (hp := H'.heap) (show 7 < H'.next by omega)).trans i7
  refine zbw (sp := 0) rfl z0 (by omega) rfl ?_
  refine za1 rfl (zb7 rfl rfl (by omega) (by omega) ?_)
  refine zhs rfl z1 (by omega) hgy ?_
  refine zao rfl rfl rfl (fun h => ?_) fun h => ?_
  ·have hneg : out'.getD (nxt n k i) 0 < 0 := of_decide_eq_true h
   have hpe : push n k (out', q') i = (out'.set (nxt n k i) (out'.getD k 0 + 1), q' ++ [nxt n k i]) := if_pos hneg
   rw [hpe] at hp hvis
   obtain ⟨hp1, hp2, hp3⟩ := hp
   have hkh := hB'.hi _ (zk9 (y := k) (by show k < out'.length; omega))
   have hkh : out'.getD k 0 + zeq out' + 1 ≤ ((2 ^ n : Nat) : Int) := hkh
   refine onu (zb2 rfl (za7 (zdo env0_ok rfl rfl rfl ?_)))
   refine zbw (sp := 0) rfl z0 (by omega) rfl ?_
   refine za1 rfl ?_
   refine zbw (sp := 0) rfl z0 (by omega) rfl ?_
   refine za1 rfl (zb7 rfl rfl (by omega) (by omega) ?_)
   refine zhs rfl z1 (by omega) hgk ?_
   refine zb3 (op := .add) rfl rfl rfl (zb7 rfl rfl (by omega) (by omega) ?_)
   rw [zm3 _ (by omega) (by omega)]
   refine zel rfl rfl rfl z1 (by rw [y07]; omega) rfl ?_
   refine onR rfl ?_
   refine zbw (sp := 0) rfl (by (repeat (first | rw [za0, if_pos rfl] | rw [za0, if_neg (by decide)] | rw [za4, if_neg (by decide)])); all_goals (first | rfl | assumption)) (by omega) rfl ?_
   refine za1 rfl ?_
   have hset : (out'.map (AV.int .i64)).set (0 + ((nxt n k i : Nat) : Int).toNat * 1) (.int .i64 (out'.getD k 0 + 1)) = (out'.set (nxt n k i) (out'.getD k 0 + 1)).map (AV.int .i64) := by
    rw [show 0 + ((nxt n k i : Nat) : Int).toNat * 1 = nxt n k i from by omega, List.map_set]
   rw [hset]
   refine zuk _ rfl rfl (zvm (put141 (a := 3) (sa := 0) (qid := 4) (sq := sq) (off := off) (len := q'.length) (cs := cs) _ ⟨_, _, _⟩ (by (repeat (first | rw [za0, if_pos rfl] | rw [za0, if_neg (by decide)] | rw [za4, if_neg (by decide)])); all_goals (first | rfl | assumption)) (show 3 < H'.next + 1 by omega) (by (repeat (first | rw [za0, if_pos rfl] | rw [za0, if_neg (by decide)] | rw [za4, if_neg (by decide)])); all_goals (first | rfl | assumption)) (by decide) hlen (by omega))) (fun _ _ _ _ hm => absurd hm y0f) fun v2 H4 hF4 => ?_
   subst hF4
   refine zai (zb9 (za8 (za5 rfl (zb3 (op := .add) rfl rfl rfl (za1 rfl (zai ?_))))))
   rw [zar j (by omega)]
   refine zat (show (mv l n k).length - (j + 1) < (mv l n k).length - j by omega) (zaq (.cons rfl (.cons rfl (.cons rfl (.cons rfl (.cons rfl (.cons rfl .nil))))))) ⟨j + 1, _, _, ⟨_, _, _⟩, rfl, hlt, hvis, hp1, hp2, y0t (Nat.le_of_eq hp3) hm', ⟨by show 8 ≤ H'.next + 1; omega, (by (repeat (first | rw [za0, if_pos rfl] | rw [za0, if_neg (by decide)] | rw [za4, if_neg (by decide)])); all_goals (first | rfl | assumption)), (by (repeat (first | rw [za0, if_pos rfl] | rw [za0, if_neg (by decide)] | rw [za4, if_neg (by decide)])); all_goals (first | rfl | assumption)), (by (repeat (first | rw [za0, if_pos rfl] | rw [za0, if_neg (by decide)] | rw [za4, if_neg (by decide)])); all_goals (first | rfl | assumption)), (by (repeat (first | rw [za0, if_pos rfl] | rw [za0, if_neg (by decide)] | rw [za4, if_neg (by decide)])); all_goals (first | rfl | assumption)), (by (repeat (first | rw [za0, if_pos rfl] | rw [za0, if_neg (by decide)] | rw [za4, if_neg (by decide)])); all_goals (first | rfl | assumption)), (by (repeat (first | rw [za0, if_pos rfl] | rw [za0, if_neg (by decide)] | rw [za4, if_neg (by decide)])); all_goals (first | rfl | assumption)), H'.clk + 1, 0, (cs.drop off).take q'.length ++ [.int .i64 (nxt n k i : Nat)], ?_, ?_, ?_, ?_⟩, ⟨by have := hK'.next; show H.next ≤ H'.next + 1; omega, by have := hK'.clk; show H.clk ≤ H'.clk + 1 + 1; omega, fun j hj hj2 => ?_⟩, rfl⟩
   ·show Am.look 3 (zb0 3 _ _) = _
    rw [za0, if_pos rfl, y0j]
    rfl
   ·show Am.look 4 (zb0 3 _ (zb0 4 _ _)) = _
    rw [za0, if_neg (by decide), za0, if_pos rfl]
   ·rw [hcs, y0j, y0j, y07]
    show 0 + (q'.length + 1) ≤ q'.length + 1
    omega
   ·rw [hcs, y14, y2h]
    exact y1f (by rw [y0j, y07, y0j]; exact y0c _)
   ·dsimp only
    rw [za0, if_neg (by omega), za0, if_neg (by omega), za0, if_neg (by omega), zb1 (by have := hK'.next; omega)]
    exact hK'.look j hj hj2
  ·have hneg : ¬ out'.getD (nxt n k i) 0 < 0 := of_decide_eq_false h
   have hpe : push n k (out', q') i = (out', q') := if_neg hneg
   rw [hpe] at hp hvis
   refine onu (zb5 rfl (zab (zb9 (za8 (za5 rfl (zb3 (op := .add) rfl rfl rfl (za1 rfl (zai ?_))))))))
   rw [zar j (by omega)]
   refine zat (show (mv l n k).length - (j + 1) < (mv l n k).length - j by omega) (zaq (.cons rfl (.cons rfl (.cons rfl (.cons rfl (.cons rfl (.cons rfl .nil))))))) ⟨j + 1, _, _, ⟨_, _, _⟩, rfl, hlt, hvis, hB', hk0', hm', ⟨by show 8 ≤ H'.next + 1; omega, z7, z6, z0, z1, z2, z5, sq, off, cs, z3, z4, hlen, hcs⟩, ⟨by have := hK'.next; show H.next ≤ H'.next + 1; omega, by have := hK'.clk; show H.clk ≤ H'.clk + 1; omega, fun j hj hj2 => ?_⟩, rfl⟩
   show Am.look j (_ :: H'.heap) = _
   rw [zb1 (by have := hK'.next; omega)]
   exact hK'.look j hj hj2
 ·have hi2 : j = (mv l n k).length := by
   have := of_decide_eq_false h3
   omega
  subst hi2
  rw [y0p, List.foldl_nil] at hvis
  rw [hvis]
  refine onu (za7 (zb5 rfl (zbi (zan ?_))))
  refine zc9 ?_
  refine zbh (zb9 ?_)
  refine zae ⟨62, zdh (l96 l n), [29], zq1, zq3, (6, 1), i7, none, rfl, rfl, ⟨hK'.next, hK'.clk, fun j hj hj2 => ?_⟩, nx', ?_, (by (repeat (first | rw [za0, if_pos rfl] | rw [za0, if_neg (by decide)] | rw [za4, if_neg (by decide)])); all_goals (first | rfl | assumption)), (by (repeat (first | rw [za0, if_pos rfl] | rw [za0, if_neg (by decide)] | rw [za4, if_neg (by decide)])); all_goals (first | rfl | assumption)), (by (repeat (first | rw [za0, if_pos rfl] | rw [za0, if_neg (by decide)] | rw [za4, if_neg (by decide)])); all_goals (first | rfl | assumption)), (by (repeat (first | rw [za0, if_pos rfl] | rw [za0, if_neg (by decide)] | rw [za4, if_neg (by decide)])); all_goals (first | rfl | assumption)), (by (repeat (first | rw [za0, if_pos rfl] | rw [za0, if_neg (by decide)] | rw [za4, if_neg (by decide)])); all_goals (first | rfl | assumption)), sq, off, cs, (by (repeat (first | rw [za0, if_pos rfl] | rw [za0, if_neg (by decide)] | rw [za4, if_neg (by decide)])); all_goals (first | rfl | assumption)), (by (repeat (first | rw [za0, if_pos rfl] | rw [za0, if_neg (by decide)] | rw [za4, if_neg (by decide)])); all_goals (first | rfl | assumption)), hlen, hcs⟩
  ·show Am.look j (zb0 7 _ H'.heap) = _
   rw [za0, if_neg (by omega)]
   exact hK'.look j hj hj2
  ·show Am.look 7 (zb0 7 _ _) = _
   rw [za0, if_pos rfl]
   rfl
def own81 : List (List AV × List AV) := [([.vs [[.int .i64 (-1)]], .int .i64 2], [.int .i64 (-1), .int .i64 (-1)]), ([.vs [[.int .i64 (-1)]], .int .i64 4], [.int .i64 (-1), .int .i64 (-1), .int .i64 (-1), .int .i64 (-1)]),
 ([.vs [[.int .i64 (-1)]], .int .i64 8], [.int .i64 (-1), .int .i64 (-1), .int .i64 (-1), .int .i64 (-1), .int .i64 (-1), .int .i64 (-1), .int .i64 (-1), .int .i64 (-1)]),
 ([.vs [[.int .i64 (-1)]], .int .i64 16], [.int .i64 (-1), .int .i64 (-1), .int .i64 (-1), .int .i64 (-1), .int .i64 (-1), .int .i64 (-1), .int .i64 (-1), .int .i64 (-1), .int .i64 (-1), .int .i64 (-1), .int .i64 (-1), .int .i64 (-1), .int .i64 (-1), .int .i64 (-1), .int .i64 (-1), .int .i64 (-1)])]
theorem zkf : zqt Try.prog (env0.tab [] []) 80 81 some own81 = true := by kernel_rfl
theorem rep81 {n : Nat} (h1 : 1 ≤ n) (h4 : n ≤ 4) : PFo Try.prog 81 [vsI [-1], .int .i64 ((2 ^ n : Nat) : Int)] 1 (2 ^ n) (some (2 ^ n)) ((List.replicate (2 ^ n) (-1)).map (AV.int .i64)) := by
 rcases (show n = 1 ∨ n = 2 ∨ n = 3 ∨ n = 4 by omega) with rfl | rfl | rfl | rfl
 ·exact ze6 (env0_ok.tab TabOk.nil) zkf _ (y05 ..)
 ·exact ze6 (env0_ok.tab TabOk.nil) zkf _ (y04 _ (y05 ..))
 ·exact ze6 (env0_ok.tab TabOk.nil) zkf _ (y04 _ (y04 _ (y05 ..)))
 ·exact ze6 (env0_ok.tab TabOk.nil) zkf _ (y04 _ (y04 _ (y04 _ (y05 ..))))
theorem shl4 {i : Nat} (h : i ≤ 4) : Am.binOp .shl (.int .i64 1) (.int .i64 (i : Nat)) = some (.int .i64 ((2 ^ i : Nat) : Int)) := by
 rcases (show i = 0 ∨ i = 1 ∨ i = 2 ∨ i = 3 ∨ i = 4 by omega) with rfl | rfl | rfl | rfl | rfl <;> rfl
theorem zre {S : AS} {d id sp len : Nat} {cap : Option Nat} (a : List Int) (hn : a.length = len) (hl : Am.look id S.heap = some (sp, .cells (a.map (AV.int .i64)))) : S.view (d + 1) (.ms id sp 1 0 len cap) = vsI a := by
 subst hn
 have e : S.elems 1 (.ms id sp 1 0 a.length cap) = some (a.map fun z => ([.int .i64 z] : List AV)) := by
  obtain ⟨n, t, hp, nx, ck, mk⟩ := S
  exact zdb (ys := []) (cap := cap) (n := n) (nx := nx) (ck := ck) (mk := mk) (l := []) (hp := hp) (by rw [y0u, ← zqa]; exact hl) (y07 ..) (fun x hx => by obtain ⟨s, _, rfl⟩ := y0o.1 hx; rfl)
 simp only [AS.view, e]
 unfold vsI
 congr 1
 rw [y1v]
 apply y1u
 intro s _
 cases d <;> rfl
theorem bfs_BI (l : List Ex) {n : Nat} (h1 : 1 ≤ n) (h4 : n ≤ 4) : ∀ (f : Nat) (s : List Int × List Nat), BI n s → s.2.length + zeq s.1 ≤ 2 ^ n → (bfs l n f s).length = 2 ^ n
 | 0, s, h, _ => h.len
 | f + 1, (out, []), h, _ => h.len
 | f + 1, (out, k :: q), h, hm => by
  obtain ⟨hBp, hk, hk0⟩ := zwl h
  simp only [y0m] at hm
  obtain ⟨a, b⟩ := zkq (l := l) h1 h4 hk (mv l n k) (out, q) hBp hk0 (by show q.length + zeq out ≤ _; omega)
  exact bfs_BI l h1 h4 f _ a (by have b : (zfk l n k (out, q)).2.length + zeq (zfk l n k (out, q)).1 = q.length + zeq out := b; show (zfk l n k (out, q)).2.length + zeq (zfk l n k (out, q)).1 ≤ _; omega)
theorem zui : ∀ m : Nat, zeq (List.replicate m (-1)) = m
 | 0 => rfl
 | m + 1 => by
  have := zui m
  unfold zeq at this ⊢
  rw [y24, y1n, if_pos (by decide), y0m, this]
def zgj (n : Nat) : List Int := (List.replicate (2 ^ n) (-1)).set 0 0
theorem zph {n : Nat} (h1 : 1 ≤ n) : BI n (zgj n, [0]) ∧ ([0] : List Nat).length + zeq (zgj n) = 2 ^ n := by
 obtain ⟨m, hm⟩ : ∃ m, 2 ^ n = m + 1 := ⟨2 ^ n - 1, by have := Nat.two_pow_pos n; omega⟩
 have e : zgj n = 0 :: List.replicate m (-1) := by unfold zgj; rw [hm, y24, List.set_cons_zero]
 have hn : zeq (zgj n) = m := by
  rw [e]
  have := zui m
  unfold zeq at this ⊢
  rw [y1n, if_neg (by decide), this]
 have _ := h1
 refine ⟨⟨?_, fun y hy => ?_, fun v hv => ?_, fun v hv => ?_, ?_⟩, ?_⟩
 ·show (zgj n).length = _
  rw [e, y0m, y0s, hm]
 ·obtain rfl := y0i.1 hy
  refine ⟨by omega, ?_⟩
  show (0 : Int) ≤ (zgj n).getD 0 0
  rw [e]
  exact y2i _
 ·have hv : v ∈ zgj n := hv
  rw [e] at hv
  rcases y0l.1 hv with rfl | hv
  ·decide
  ·rw [List.eq_of_mem_replicate hv]; decide
 ·show v + ((zeq (zgj n) : Nat) : Int) + 1 ≤ _
  rw [hn, hm]
  have hv : v ∈ zgj n := hv
  rw [e] at hv
  rcases y0l.1 hv with rfl | hv
  ·omega
  ·rw [List.eq_of_mem_replicate hv]; omega
 ·show 1 ≤ _
  omega
 ·rw [hn, hm]
  show 1 + m = _
  omega
set_option maxHeartbeats 8000000 in
theorem levels96 (l : List Ex) (hsl : ∀ y ∈ l, Slim y) {n : Nat} (h1 : 1 ≤ n) (h4 : n ≤ 4) (hg : zc0 l n = 0) : PF Try.prog 96 [.agg [.vs (cXs l)], .int .i64 (n : Nat)] (vsI (zn0 l n)) := by
 have hb0 := zcg n 0
 have hpos := ya1 (e := zby n 0) (by rw [hb0]; exact h1) (by rw [hb0]; exact h4)
 rw [hb0, zg3 h1 h4 (Nat.two_pow_pos n)] at hpos
 have hal := zfp l hsl (zdn (zby n 0)) (zki (by rw [hb0]; exact hg))
 have hN := Nat.two_pow_pos n
 refine zax env0_ok fn96 [(0, .agg [.vs (cXs l)]), (1, .int .i64 (n : Nat))] (by show 2 ≤ 62; decide) rfl fun w0 N0 => ?_
 unfold ic96 zn0
 refine zsr rfl (zbq rfl rfl (zbq rfl rfl (za1 rfl (onr rfl ?_))))
 refine zvy [[.int .i64 (-1)]] rfl rfl rfl rfl ?_
 refine za6 rfl rfl ?_
 refine zb3 (op := .shl) rfl rfl (shl4 h4) ?_
 refine o_own rfl rfl (rep81 h1 h4) (zh7 _) ?_
 refine zay (zah rfl rfl rfl rfl rfl rfl rfl (onu (za7 (za7 ?_))))
 refine zfl env0_ok [(95, [.int .i64 (n : Nat), .int .i64 0], vsI (zdn (zby n 0))), (94, [.agg [.vs (cXs l)], vsI (zdn (zby n 0))], .bool (zds l (zdn (zby n 0))))] (fun x hx => by
  rcases y0l.1 hx with rfl | hx
  ·exact hpos
  obtain rfl := y0i.1 hx
  exact hal) (fun f => Nat.beq f 95 || Nat.beq f 94) rfl rfl rfl ?_
 refine zal rfl rfl rfl rfl (za6 rfl rfl ?_)
 refine zas rfl rfl zbn noC ?_
 refine zas rfl rfl (zd1 (by decide) zbn) noC ?_
 cases hf : zds l (zdn (zby n 0)) with
 | false =>
  refine zes rfl rfl (onu (zb2 rfl (zsr rfl (za6 rfl rfl (za1 rfl (onu (zaf (za2 ?_))))))))
  exact zae ⟨.inr rfl, _, rfl, zre (d := 3) _ (y0s ..) rfl⟩
 | true =>
  rw [if_pos rfl]
  refine zes rfl rfl (onu (zb5 rfl (zab (za8 (zsr rfl (za6 rfl rfl (zb7 rfl rfl (by omega) (by omega) ?_)))))))
  refine zel rfl rfl rfl rfl (by rw [y07, y0s]; exact hN) rfl ?_
  refine onr rfl (zhr rfl rfl (zbq rfl rfl (zay (zah rfl rfl rfl rfl rfl rfl rfl (onr rfl (za6 rfl rfl ?_))))))
  refine zuk _ rfl rfl (zvm (put141n (a := 4) (sa := 4) 0 ⟨_, _, _⟩ rfl (show 4 < 6 by decide))) (fun _ _ _ _ hm => absurd hm y0f) fun v2 H4 hF4 => ?_
  subst hF4
  refine onu (za7 (zsr rfl (za6 rfl rfl ?_)))
  refine zuk _ rfl rfl (zvm (all142 (a := 4) (sa := 4) ⟨_, _, _⟩)) (fun _ _ _ _ hm => absurd hm y0f) fun v2 H4 hF4 => ?_
  obtain ⟨rfl, rfl⟩ := hF4
  refine onu (zad ?_)
  have hset : ((List.replicate (2 ^ n) (-1 : Int)).map (AV.int .i64)).set 0 (.int .i64 0) = (zgj n).map (AV.int .i64) := by
   unfold zgj
   rw [List.map_set]
  obtain ⟨hB0, hB1⟩ := zph h1
  refine zf2 [(some (3, 3), [.ms 1 0 1 0 (2 ^ n) (some (2 ^ n))]), (some (2, 2), (zgj n).map (AV.int .i64)), (some (5, 5), [.mptr 3 0 0]), (some (4, 4), [.ms 4 0 1 0 1 none]), (some (6, 6), [.int .i64 0]), (some (7, 7), [.mptr 3 0 0])] [(0, 0, [.vs (cXs l)]), (1, 1, [.int .i64 (n : Nat)])] (l96 l n) rfl (.cons rfl rfl (.cons rfl rfl .nil)) (.cons rfl (.cons (.ms rfl) .nil) (.cons (by rw [← hset]; rfl) (.keep (zjf _)) (.cons rfl (.cons (.mptr rfl) .nil) (.cons rfl (.cons (.ms rfl) .nil) (.cons rfl (.keep rfl) (.cons rfl (.cons (.mptr rfl) .nil) .nil)))))) (.cons rfl (.fptr rfl rfl) (.cons rfl (.fptr rfl rfl) (.cons rfl (.mptr rfl) (.cons rfl (.mptr rfl) (.cons rfl (.fn rfl rfl (fun i x y h _ => by simp at h) (fun i x y g1 g2 => by
   match i, g1, g2 with
   | 0, g1, g2 => injection g1 with g1; injection g2 with g2; subst g1 g2; exact .mptr rfl
   | i + 1, g1, g2 => simp at g1)) .nil))))) ?_
  refine zi1 (.inl rfl) rfl fun ha hb => (range161 h1 h4 (fun out k q H hB hk hk0 hm hQ => yield96 hsl h1 h4 hg ha hb out k q H hB hk hk0 hm hQ) ⟨_, _, _⟩ (zgj n) [0] (2 ^ n + 1) ⟨y0c _, rfl, rfl, rfl, rfl, rfl, rfl, 0, 0, [.int .i64 0], rfl, rfl, y0c _, rfl⟩ hB0 (by omega) (by omega)).mono fun v H2 hF => ?_
  obtain ⟨hK, q', nx, h7, h6, g0, g1, _⟩ := hF
  have hlen := bfs_BI l h1 h4 (2 ^ n + 1) (zgj n, [0]) hB0 (by show ([0] : List Nat).length + zeq (zgj n) ≤ _; omega)
  refine ⟨_, _, .normal, _, _, _, _, _, _, h7, by simp, rfl, fun z hz => ?_, ?_⟩
  ·obtain rfl := y0i.1 hz
   show Am.look 6 (zbo 7 H2.heap) = some (1, .deferred)
   exact (by (repeat (first | rw [za0, if_pos rfl] | rw [za0, if_neg (by decide)] | rw [za4, if_neg (by decide)])); all_goals (first | rfl | assumption))
  ·refine zb9 (za8 (zsr rfl ?_))
   refine zbw (sp := 0) rfl (show Am.look 0 (zbo 7 H2.heap) = _ from (by (repeat (first | rw [za0, if_pos rfl] | rw [za0, if_neg (by decide)] | rw [za4, if_neg (by decide)])); all_goals (first | rfl | assumption))) (by omega) rfl ?_
   refine za1 rfl (onu (zaf ?_))
   refine zae ⟨.inr rfl, _, rfl, zre (d := 3) _ hlen ?_⟩
   show Am.look 1 (zbo 6 (zbo 7 H2.heap)) = _
   exact (by (repeat (first | rw [za0, if_pos rfl] | rw [za0, if_neg (by decide)] | rw [za4, if_neg (by decide)])); all_goals (first | rfl | assumption))
theorem znq : ∀ e ∈ allE, ∀ i ∈ [0, 1, 2, 3], i < e.length → sw (zwj (zdc e i) i) = sw (zwj e i) ∧ zdc (zdc e i) i = e := by decide +kernel
theorem i4 {i n : Nat} (hi : i < n) (h4 : n ≤ 4) : i ∈ [0, 1, 2, 3] := by
 rcases (show i = 0 ∨ i = 1 ∨ i = 2 ∨ i = 3 by omega) with rfl | rfl | rfl | rfl <;> simp
theorem zyp {e : List Bool} (h1 : 1 ≤ e.length) (h4 : e.length ≤ 4) {i : Nat} (hi : i < e.length) : zdc (zdc e i) i = e := (znq e (zdt e h1 h4) i (i4 hi h4) hi).2
theorem may_flip (l : List Ex) {e : List Bool} (h1 : 1 ≤ e.length) (h4 : e.length ≤ 4) {i : Nat} (hi : i < e.length) : zrj l (zdc e i) i = zrj l e i := by
 obtain ⟨a, b⟩ := znq e (zdt e h1 h4) i (i4 hi h4) hi
 have hw : zds l (zwj (zdc e i) i) = zds l (zwj e i) := by
  unfold zds zh2
  rw [a]
 unfold zrj
 rw [b, hw, Bool.and_comm (zds l (zdn (zdc e i)))]
section
variable {l : List Ex} {n : Nat} (h1 : 1 ≤ n) (h4 : n ≤ 4)
include h1 h4
theorem zzu {k i : Nat} (hk : k < 2 ^ n) (hi : i < n) : nxt n (nxt n k i) i = k := by
 have hl := zcg n k
 show zcy (zdc (zby n (nxt n k i)) i) = k
 rw [znz h1 h4, zyp (by rw [hl]; exact h1) (by rw [hl]; exact h4) (by rw [hl]; exact hi), zg3 h1 h4 hk]
theorem zzo {k i : Nat} (hi : i ∈ mv l n k) : i ∈ mv l n (nxt n k i) := by
 have hl := zcg n k
 obtain ⟨a, b⟩ := y1o.1 hi
 refine y1o.2 ⟨a, ?_⟩
 have hin := y10.1 a
 rw [znz h1 h4]
 have := may_flip l (e := zby n k) (by rw [hl]; exact h1) (by rw [hl]; exact h4) (i := i) (by rw [hl]; exact hin)
 exact this.trans b
end
structure LevW (l : List Ex) (n : Nat) (D : List Int) : Prop where
 len : D.length = 2 ^ n
 lo : ∀ k, k < 2 ^ n → -1 ≤ D.getD k 0
 hi : ∀ k, k < 2 ^ n → D.getD k 0 < ((2 ^ n : Nat) : Int)
 zer : ∀ k, k < 2 ^ n → D.getD k 0 = 0 → k = 0
 pred : ∀ z, z < 2 ^ n → 0 < D.getD z 0 → ∃ y, y < 2 ^ n ∧ ∃ i ∈ mv l n y, nxt n y i = z ∧ D.getD y 0 + 1 = D.getD z 0
 step : ∀ y, y < 2 ^ n → 0 ≤ D.getD y 0 → ∀ i ∈ mv l n y, 0 ≤ D.getD (nxt n y i) 0 ∧ D.getD (nxt n y i) 0 ≤ D.getD y 0 + 1
structure BQ (l : List Ex) (n : Nat) (s : List Int × List Nat) : Prop where
 bi : BI n s
 zero : s.1.getD 0 0 = 0
 zer : ∀ k, k < 2 ^ n → s.1.getD k 0 = 0 → k = 0
 pred : ∀ z, z < 2 ^ n → 0 < s.1.getD z 0 → ∃ y, y < 2 ^ n ∧ ∃ i ∈ mv l n y, nxt n y i = z ∧ s.1.getD y 0 + 1 = s.1.getD z 0
 fin : ∀ p, p < 2 ^ n → 0 ≤ s.1.getD p 0 → p ∉ s.2 → ∀ i ∈ mv l n p, 0 ≤ s.1.getD (nxt n p i) 0 ∧ s.1.getD (nxt n p i) 0 ≤ s.1.getD p 0 + 1
 top : ∀ v, v < 2 ^ n → ∀ x ∈ s.2, s.1.getD v 0 ≤ s.1.getD x 0 + 1
 srt : s.2.Pairwise fun x y => s.1.getD x 0 ≤ s.1.getD y 0
structure BJ (l : List Ex) (n k : Nat) (done : List Nat) (s : List Int × List Nat) : Prop where
 bi : BI n s
 zero : s.1.getD 0 0 = 0
 zer : ∀ k, k < 2 ^ n → s.1.getD k 0 = 0 → k = 0
 pred : ∀ z, z < 2 ^ n → 0 < s.1.getD z 0 → ∃ y, y < 2 ^ n ∧ ∃ i ∈ mv l n y, nxt n y i = z ∧ s.1.getD y 0 + 1 = s.1.getD z 0
 fin : ∀ p, p < 2 ^ n → 0 ≤ s.1.getD p 0 → p ∉ s.2 → p ≠ k → ∀ i ∈ mv l n p, 0 ≤ s.1.getD (nxt n p i) 0 ∧ s.1.getD (nxt n p i) 0 ≤ s.1.getD p 0 + 1
 cur : ∀ i ∈ done, 0 ≤ s.1.getD (nxt n k i) 0 ∧ s.1.getD (nxt n k i) 0 ≤ s.1.getD k 0 + 1
 k0 : 0 ≤ s.1.getD k 0
 top : ∀ v, v < 2 ^ n → s.1.getD v 0 ≤ s.1.getD k 0 + 1
 low : ∀ x ∈ s.2, s.1.getD k 0 ≤ s.1.getD x 0
 srt : s.2.Pairwise fun x y => s.1.getD x 0 ≤ s.1.getD y 0
section
variable {l : List Ex} {n : Nat} (h1 : 1 ≤ n) (h4 : n ≤ 4)
include h1 h4
theorem push_BJ {k i : Nat} {done : List Nat} {s : List Int × List Nat} (hk : k < 2 ^ n) (hi : i ∈ mv l n k) (h : BJ l n k done s) (hm : s.2.length + zeq s.1 ≤ 2 ^ n) : BJ l n k (i :: done) (push n k s i) := by
 have hbi := (zpa (i := i) h1 h4 hk h.bi h.k0 hm).1
 have hy := zk0 (k := k) (i := i) h1 h4
 obtain ⟨out, q⟩ := s
 have hlen : out.length = 2 ^ n := h.bi.len
 have hbq := h.bi.q
 have hN := Nat.two_pow_pos n
 obtain ⟨_, zero, zer, pred, fin, cur, k0, top, low, srt⟩ := h
 simp only at zero zer pred fin cur k0 top low srt
 have hqn : ∀ x ∈ q, 0 ≤ out.getD x 0 := fun x hx => (hbq x hx).2
 unfold push at hbi ⊢
 simp only at hbi ⊢
 by_cases hneg : out.getD (nxt n k i) 0 < 0
 ·rw [if_pos hneg] at hbi ⊢
  have G : ∀ z, (out.set (nxt n k i) (out.getD k 0 + 1)).getD z 0 = if nxt n k i = z then out.getD k 0 + 1 else out.getD z 0 := fun z => zeb (by omega)
  have ne : ∀ {z}, 0 ≤ out.getD z 0 → nxt n k i ≠ z := fun hz e => by rw [e] at hneg; omega
  have Gs : ∀ {z}, 0 ≤ out.getD z 0 → (out.set (nxt n k i) (out.getD k 0 + 1)).getD z 0 = out.getD z 0 := fun hz => by rw [G, if_neg (ne hz)]
  have Gy : (out.set (nxt n k i) (out.getD k 0 + 1)).getD (nxt n k i) 0 = out.getD k 0 + 1 := by rw [G, if_pos rfl]
  refine ⟨hbi, ?_, fun z hz e => ?_, fun z hz hp => ?_, fun p hp hp0 hpq hpk j hj => ?_, fun j hj => ?_, ?_, fun v hv => ?_, fun x hx => ?_, ?_⟩
  ·show (out.set _ _).getD 0 0 = 0
   rw [Gs (by omega)]; exact zero
  ·have e : (out.set _ _).getD z 0 = 0 := e
   rw [G] at e
   split at e
   ·omega
   ·exact zer z hz e
  ·have hp : 0 < (out.set _ _).getD z 0 := hp
   show ∃ y, y < 2 ^ n ∧ ∃ i' ∈ mv l n y, nxt n y i' = z ∧ (out.set _ _).getD y 0 + 1 = (out.set _ _).getD z 0
   by_cases e : nxt n k i = z
   ·subst e
    exact ⟨k, hk, i, hi, rfl, by rw [Gs k0, Gy]⟩
   ·rw [G, if_neg e] at hp
    obtain ⟨y, hy2, j, hj, e1, e2⟩ := pred z hz hp
    refine ⟨y, hy2, j, hj, e1, ?_⟩
    rw [Gs (z := y) (by omega), G, if_neg e]
    exact e2
  ·have hp0 : 0 ≤ (out.set _ _).getD p 0 := hp0
   have hpq : p ∉ q ++ [nxt n k i] := hpq
   have hpy : nxt n k i ≠ p := fun e => hpq (by rw [e]; simp)
   rw [G, if_neg hpy] at hp0
   obtain ⟨a, b⟩ := fin p hp hp0 (fun hh => hpq (List.mem_append_left _ hh)) hpk j hj
   show 0 ≤ (out.set _ _).getD _ 0 ∧ (out.set _ _).getD _ 0 ≤ (out.set _ _).getD p 0 + 1
   rw [Gs a, Gs hp0]
   exact ⟨a, b⟩
  ·show 0 ≤ (out.set _ _).getD _ 0 ∧ (out.set _ _).getD _ 0 ≤ (out.set _ _).getD k 0 + 1
   rcases y0l.1 hj with rfl | hj
   ·rw [Gy, Gs k0]; omega
   ·obtain ⟨a, b⟩ := cur j hj
    rw [Gs a, Gs k0]
    exact ⟨a, b⟩
  ·show 0 ≤ (out.set _ _).getD k 0
   rw [Gs k0]; exact k0
  ·show (out.set _ _).getD v 0 ≤ (out.set _ _).getD k 0 + 1
   rw [Gs k0, G]
   split
   ·exact y2i _
   ·exact top v hv
  ·show (out.set _ _).getD k 0 ≤ (out.set _ _).getD x 0
   have hx : x ∈ q ++ [nxt n k i] := hx
   rcases List.mem_append.1 hx with hx | hx
   ·rw [Gs k0, Gs (hqn x hx)]; exact low x hx
   ·obtain rfl := y0i.1 hx
    rw [Gs k0, Gy]; omega
  ·show (q ++ [nxt n k i]).Pairwise fun x y => (out.set (nxt n k i) (out.getD k 0 + 1)).getD x 0 ≤ (out.set (nxt n k i) (out.getD k 0 + 1)).getD y 0
   rw [List.pairwise_append]
   refine ⟨srt.imp_of_mem fun ha hb hab => by rw [Gs (hqn _ ha), Gs (hqn _ hb)]; exact hab, List.pairwise_singleton .., fun a ha b hb => ?_⟩
   obtain rfl := y0i.1 hb
   rw [Gs (hqn a ha), Gy]
   exact top a (hbq a ha).1
 ·rw [if_neg hneg] at hbi ⊢
  refine ⟨hbi, zero, zer, pred, fin, fun j hj => ?_, k0, top, low, srt⟩
  rcases y0l.1 hj with rfl | hj
  ·exact ⟨by show 0 ≤ out.getD _ 0; omega, top _ hy⟩
  ·exact cur j hj
theorem zv7 {k : Nat} (hk : k < 2 ^ n) : ∀ (ms : List Nat) (done : List Nat) (s : List Int × List Nat), (∀ i ∈ ms, i ∈ mv l n k) → BJ l n k done s → s.2.length + zeq s.1 ≤ 2 ^ n → BJ l n k (ms.reverse ++ done) (ms.foldl (push n k) s)
 | [], done, s, _, h, _ => h
 | i :: ms, done, s, hi, h, hm => by
  have hp := push_BJ h1 h4 hk (hi i (y05 ..)) h hm
  have hb := zpa (i := i) h1 h4 hk h.bi h.k0 hm
  have := zv7 hk ms (i :: done) _ (fun j hj => hi j (y04 _ hj)) hp (by rw [hb.2.2]; exact hm)
  rw [List.reverse_cons, y1r]
  exact this
theorem zxe : ∀ (f : Nat) (s : List Int × List Nat), BQ l n s → s.2.length + zeq s.1 ≤ 2 ^ n → s.2.length + zeq s.1 < f → LevW l n (bfs l n f s) ∧ (bfs l n f s).getD 0 0 = 0
 | 0, s, _, _, hf => absurd hf (y28 _)
 | f + 1, (out, []), h, _, _ => by
  refine ⟨⟨h.bi.len, fun k hk => ?_, fun k hk => ?_, h.zer, h.pred, fun y hy hy0 i hi => h.fin y hy hy0 y0f i hi⟩, h.zero⟩
  ·exact h.bi.lo _ (zk9 (by have : out.length = 2 ^ n := h.bi.len; show k < out.length; omega))
  ·have := h.bi.hi _ (zk9 (y := k) (by have : out.length = 2 ^ n := h.bi.len; show k < out.length; omega))
   show out.getD k 0 < _
   have : out.getD k 0 + zeq out + 1 ≤ ((2 ^ n : Nat) : Int) := this
   omega
 | f + 1, (out, k :: q), h, hm, hf => by
  obtain ⟨hBp, hk, hk0⟩ := zwl h.bi
  simp only [y0m] at hm hf
  have hsrt := List.pairwise_cons.1 h.srt
  have hJ : BJ l n k [] (out, q) := ⟨hBp, h.zero, h.zer, h.pred, fun p hp hp0 hpq hpk j hj => h.fin p hp hp0 (fun hh => (y0l.1 hh).elim hpk hpq) j hj, fun i hi => absurd hi y0f, hk0, fun v hv => h.top v hv k (y05 ..), hsrt.1, hsrt.2⟩
  have hm' : q.length + zeq out ≤ 2 ^ n := by omega
  have hv := zv7 h1 h4 hk (mv l n k) [] (out, q) (fun i hi => hi) hJ hm'
  rw [y0u] at hv
  obtain ⟨b1, b2⟩ := zkq (l := l) h1 h4 hk (mv l n k) (out, q) hBp hk0 hm'
  have b2 : (zfk l n k (out, q)).2.length + zeq (zfk l n k (out, q)).1 = q.length + zeq out := b2
  have hQ : BQ l n (zfk l n k (out, q)) := ⟨b1, hv.zero, hv.zer, hv.pred, fun p hp hp0 hpq j hj => by
   by_cases e : p = k
   ·subst e
    exact hv.cur j (List.mem_reverse.2 hj)
   ·exact hv.fin p hp hp0 hpq e j hj, fun v hv' x hx => by
    have a := hv.top v hv'
    have b := hv.low x hx
    have a : (zfk l n k (out, q)).1.getD v 0 ≤ (zfk l n k (out, q)).1.getD k 0 + 1 := a
    have b : (zfk l n k (out, q)).1.getD k 0 ≤ (zfk l n k (out, q)).1.getD x 0 := b
    omega, hv.srt⟩
  exact zxe f _ hQ (by omega) (by omega)
theorem start_BQ : BQ l n (zgj n, [0]) := by
 have _ := h4
 obtain ⟨hb, _⟩ := zph h1
 have hN := Nat.two_pow_pos n
 have hg : ∀ z, z < 2 ^ n → (zgj n).getD z 0 = if z = 0 then 0 else -1 := fun z hz => by
  unfold zgj
  rw [zeb (by rw [y0s]; exact hN)]
  by_cases e : z = 0
  ·rw [if_pos e.symm, if_pos e]
  ·rw [if_neg (fun h => e h.symm), if_neg e, y08, List.getElem?_replicate, if_pos hz]
   rfl
 have h0 : (zgj n).getD 0 0 = 0 := by rw [hg 0 hN, if_pos rfl]
 refine ⟨hb, h0, fun k hk e => ?_, fun z hz hp => ?_, fun p hp hp0 hpq => ?_, fun v hv x hx => ?_, List.pairwise_singleton ..⟩
 ·have e : (zgj n).getD k 0 = 0 := e
  rw [hg k hk] at e
  split at e
  ·assumption
  ·cases e
 ·have hp : 0 < (zgj n).getD z 0 := hp
  rw [hg z hz] at hp
  split at hp <;> omega
 ·have hp0 : 0 ≤ (zgj n).getD p 0 := hp0
  rw [hg p hp] at hp0
  split at hp0
  ·rename_i e
   subst e
   exact absurd (y0i.2 rfl) hpq
  ·omega
 ·obtain rfl := y0i.1 hx
  show (zgj n).getD v 0 ≤ (zgj n).getD 0 0 + 1
  rw [hg v hv, h0]
  split <;> omega
theorem zu7 (hf : zds l (zdn (zby n 0)) = true) : LevW l n (zn0 l n) ∧ (zn0 l n).getD 0 0 = 0 := by
 obtain ⟨_, hm⟩ := zph h1
 unfold zn0
 rw [if_pos hf]
 have hm : ([0] : List Nat).length + zeq (zgj n) = 2 ^ n := hm
 exact zxe h1 h4 _ _ (start_BQ h1 h4) (Nat.le_of_eq hm) (by show ([0] : List Nat).length + zeq (zgj n) < _; omega)
theorem rep_get (z : Nat) (hz : z < 2 ^ n) : (List.replicate (2 ^ n) (-1 : Int)).getD z 0 = -1 := by
 have _ := h1
 have _ := h4
 rw [y08, List.getElem?_replicate, if_pos hz]
 rfl
theorem zsk : LevW l n (zn0 l n) := by
 cases hf : zds l (zdn (zby n 0)) with
 | true => exact (zu7 h1 h4 hf).1
 | false =>
  have e : zn0 l n = List.replicate (2 ^ n) (-1) := by unfold zn0; rw [hf]; rfl
  rw [e]
  have g := rep_get h1 h4
  exact ⟨y0s .., fun k hk => by rw [g k hk]; decide, fun k hk => by rw [g k hk]; omega, fun k hk h => by rw [g k hk] at h; omega, fun z hz h => by rw [g z hz] at h; omega, fun y hy h => by rw [g y hy] at h; omega⟩
end
theorem zv2 {n : Int} {E : List Bool} {p : Sp} (h : StpOk n E p) (hE : (E.length : Int) = n) {q : List Int} (hq : q.length = E.length)
  (h0 : ∀ i, i < E.length → zf4 (i : Nat) p.l = 0 → q.getD i 0 = zgq (E.getD i false)) (h1 : ∀ i, i < E.length → zf4 (i : Nat) p.l = 1 → q.getD i 0 = 0 ∨ q.getD i 0 = 1 ∨ q.getD i 0 = 2) (h2 : ∀ i, i < E.length → zf4 (i : Nat) p.l = -1 → q.getD i 0 = 2 ∨ q.getD i 0 = 3 ∨ q.getD i 0 = 0) :
  q ∈ ze2 (zf5 E (aft E p.l) p.l E.length) := by
 have g0 : ∀ s ∈ p.l, 0 ≤ s.a := fun s hs => (h.acts hE s hs).1
 refine zo5 (by rw [hq, zf0]) fun i hi => ?_
 rw [zf0] at hi
 rw [znj hi]
 unfold zpj
 rcases zj6 (i := i) g0 h.su with ⟨e, _⟩ | ⟨e, _⟩ | e
 ·rw [if_pos e]
  rcases h1 i hi e with e | e | e <;> rw [e] <;> simp
 ·rw [if_neg (by omega), if_pos e]
  rcases h2 i hi e with e | e | e <;> rw [e] <;> simp
 ·rw [if_neg (by omega), if_neg (by omega), zfo p.l E g0 e, Bool.and_self, h0 i hi e]
  simp
theorem zrh {i : Int} : ∀ {l : List Sk} {j : Nat}, zf4 i l = 0 → zf4 i (l.take j) = 0
 | [], j, h => by simp [zf4]
 | s :: r, 0, h => rfl
 | s :: r, j + 1, h => by
  rw [zf4] at h
  by_cases e : (s.a == i) = true
  ·rw [if_pos e] at h
   split at h <;> exact absurd h (by decide)
  ·rw [if_neg e] at h
   rw [y19, zf4, if_neg e]
   exact zrh h
theorem zt5 : ∀ {l : List Sk} {z : Int}, zhk z l = 0 → ∀ j (h : j < l.length), zf4 l[j].a l = (if l[j].o = true then 1 else -1) ∧ zf4 l[j].a (l.take j) = 0
 | [], _, _, j, h => absurd h (y28 j)
 | s :: r, z, hs, 0, h => by
  refine ⟨?_, rfl⟩
  show zf4 s.a (s :: r) = _
  rw [zf4, if_pos (by simp)]
  rfl
 | s :: r, z, hs, j + 1, h => by
  have ht := zj4 hs
  have hj : j < r.length := by rw [y0m] at h; omega
  obtain ⟨h1, h2⟩ := zt5 ht j hj
  have hgt := zpl r _ ht r[j] (y0r hj)
  have hne : ¬ (s.a == r[j].a) = true := by simp; omega
  refine ⟨?_, ?_⟩
  ·show zf4 r[j].a (s :: r) = _
   rw [zf4, if_neg hne]
   exact h1
  ·show zf4 r[j].a ((s :: r).take (j + 1)) = 0
   rw [y19, zf4, if_neg hne]
   exact h2
section
variable {f : List Ex} {n : Nat} {E : List Bool} {p : Sp}
def zws (f : List Ex) (E : List Bool) (p : Sp) : Prop := ∀ q ∈ ze2 (zf5 E (aft E p.l) p.l E.length), (zh2 f q).isEmpty = true
theorem zun (h : StpOk n E p) (hE : E.length = n) (j : Nat) {i : Nat} (hi : zf4 (i : Nat) p.l = 0) : (aft E (p.l.take j)).getD i false = E.getD i false :=
 zfo (p.l.take j) E (fun s hs => (h.acts (by rw [hE]) s (y2c hs)).1) (zrh hi)
theorem zqu (h : StpOk n E p) (hE : E.length = n) (hs : zws f E p) (j : Nat) : zds f (zdn (aft E (p.l.take j))) = true := by
 have hl : (aft E (p.l.take j)).length = E.length := zbu _ _
 have g : ∀ i, i < E.length → (zdn (aft E (p.l.take j))).getD i 0 = zgq ((aft E (p.l.take j)).getD i false) := fun i hi => zs1 (E := aft E (p.l.take j)) (by rw [hl]; exact hi)
 refine hs _ (zv2 h (by rw [hE]) (by rw [zhe, hl]) (fun i hi e => ?_) (fun i hi _ => ?_) fun i hi _ => ?_)
 ·rw [g i hi, zun h hE j e]
 ·rw [g i hi]
  have := zh6 ((aft E (p.l.take j)).getD i false)
  omega
 ·rw [g i hi]
  have := zh6 ((aft E (p.l.take j)).getD i false)
  omega
theorem zqv (h : StpOk n E p) (hE : E.length = n) {j : Nat} (hj : j < p.l.length) : aft E (p.l.take (j + 1)) = zdc (aft E (p.l.take j)) p.l[j].a.toNat ∧ (aft E (p.l.take j)).getD p.l[j].a.toNat false = !p.l[j].o := by
 obtain ⟨a0, a1⟩ := h.acts (by rw [hE]) p.l[j] (y0r hj)
 have hat := zt5 (zpg h.sp) j hj
 have ha : ((p.l[j].a.toNat : Nat) : Int) = p.l[j].a := by omega
 have g0 : ∀ s ∈ p.l, 0 ≤ s.a := fun s hs => (h.acts (by rw [hE]) s hs).1
 have hst : (aft E (p.l.take j)).getD p.l[j].a.toNat false = E.getD p.l[j].a.toNat false :=
  zfo (p.l.take j) E (fun s hs => g0 s (y2c hs)) (by rw [ha]; exact hat.2)
 have hE2 : E.getD p.l[j].a.toNat false = !p.l[j].o := by
  rcases zj6 (i := p.l[j].a.toNat) g0 h.su with ⟨e, e2⟩ | ⟨e, e2⟩ | e
  ·rw [e2]; rw [ha, hat.1] at e
   cases ho : p.l[j].o with
   | true => rfl
   | false => rw [ho] at e; exact absurd e (by decide)
  ·rw [e2]; rw [ha, hat.1] at e
   cases ho : p.l[j].o with
   | true => rw [ho] at e; exact absurd e (by decide)
   | false => rfl
  ·rw [ha, hat.1] at e
   split at e <;> exact absurd e (by decide)
 refine ⟨?_, hst.trans hE2⟩
 unfold zdc
 rw [hst, hE2, Bool.not_not, znv hj]
theorem part_may (h : StpOk n E p) (hE : E.length = n) (hs : zws f E p) {j : Nat} (hj : j < p.l.length) : zrj f (aft E (p.l.take j)) p.l[j].a.toNat = true := by
 obtain ⟨hn, ho⟩ := zqv h hE hj
 obtain ⟨a0, a1⟩ := h.acts (by rw [hE]) p.l[j] (y0r hj)
 have hat := zt5 (zpg h.sp) j hj
 have ha : ((p.l[j].a.toNat : Nat) : Int) = p.l[j].a := by omega
 have hl : (aft E (p.l.take j)).length = E.length := zbu _ _
 have g : ∀ i, i < E.length → (zdn (aft E (p.l.take j))).getD i 0 = zgq ((aft E (p.l.take j)).getD i false) := fun i hi => zs1 (E := aft E (p.l.take j)) (by rw [hl]; exact hi)
 unfold zrj
 rw [← hn, zqu h hE hs j, zqu h hE hs (j + 1), y2f, y2f]
 have hlw : (zdn (aft E (p.l.take j))).length = E.length := by rw [zhe, hl]
 have gw : ∀ i, i < E.length → (zwj (aft E (p.l.take j)) p.l[j].a.toNat).getD i 0 = if i = p.l[j].a.toNat then (if p.l[j].o = true then 1 else 3) else zgq ((aft E (p.l.take j)).getD i false) := fun i hi => by
  unfold zwj
  rw [ho]
  by_cases e : i = p.l[j].a.toNat
  ·rw [if_pos e, e, y08, List.getElem?_set_self (by rw [hlw]; omega), y1c]
   cases p.l[j].o <;> rfl
  ·rw [if_neg e, y08, y2d (fun h => e h.symm), ← y08, g i hi]
 refine hs _ (zv2 h (by rw [hE]) (by unfold zwj; rw [y1i, hlw]) (fun i hi e => ?_) (fun i hi e1 => ?_) fun i hi e1 => ?_)
 ·have hne : i ≠ p.l[j].a.toNat := by
   rintro rfl
   rw [ha, hat.1] at e
   split at e <;> exact absurd e (by decide)
  rw [gw i hi, if_neg hne, zun h hE j e]
 ·rw [gw i hi]
  by_cases e : i = p.l[j].a.toNat
  ·rw [if_pos e]
   rw [e, ha, hat.1] at e1
   cases ho' : p.l[j].o with
   | true => simp
   | false => rw [ho'] at e1; exact absurd e1 (by decide)
  ·rw [if_neg e]
   have := zh6 ((aft E (p.l.take j)).getD i false)
   omega
 ·rw [gw i hi]
  by_cases e : i = p.l[j].a.toNat
  ·rw [if_pos e]
   rw [e, ha, hat.1] at e1
   cases ho' : p.l[j].o with
   | true => rw [ho'] at e1; exact absurd e1 (by decide)
   | false => simp
  ·rw [if_neg e]
   have := zh6 ((aft E (p.l.take j)).getD i false)
   omega
def zgc (f : List Ex) (e : List Bool) : Int := (zn0 f e.length).getD (zcy e) 0
theorem zvu (h : StpOk n E p) (hE : E.length = n) (h1 : 1 ≤ n) (h4 : n ≤ 4) (hs : zws f E p) {j : Nat} (hj : j < p.l.length) :
  (0 ≤ zgc f (aft E (p.l.take j)) → 0 ≤ zgc f (aft E (p.l.take (j + 1))) ∧ zgc f (aft E (p.l.take (j + 1))) ≤ zgc f (aft E (p.l.take j)) + 1) ∧
  (0 ≤ zgc f (aft E (p.l.take (j + 1))) → 0 ≤ zgc f (aft E (p.l.take j)) ∧ zgc f (aft E (p.l.take j)) ≤ zgc f (aft E (p.l.take (j + 1))) + 1) := by
 have hm := part_may h hE hs hj
 obtain ⟨hn, _⟩ := zqv h hE hj
 obtain ⟨a0, a1⟩ := h.acts (by rw [hE]) p.l[j] (y0r hj)
 have hin0 : p.l[j].a.toNat < n := by omega
 have hl : (aft E (p.l.take j)).length = n := by rw [zbu, hE]
 have hl2 : (aft E (p.l.take (j + 1))).length = n := by rw [zbu, hE]
 have hD := zsk (l := f) h1 h4
 unfold zgc
 rw [hl, hl2]
 generalize aft E (p.l.take j) = e at *
 generalize aft E (p.l.take (j + 1)) = e2 at *
 generalize p.l[j].a.toNat = a at *
 have hb := zk5 (e := e) (by omega) (by omega)
 have hk := zu1 (e := e) (by omega) (by omega)
 rw [hl] at hb hk
 have hin : a < n := hin0
 have hmv : a ∈ mv f n (zcy e) := y1o.2 ⟨y10.2 hin, by rw [hb]; exact hm⟩
 have hnx : nxt n (zcy e) a = zcy e2 := by unfold nxt; rw [hb, hn]
 refine ⟨fun h0 => ?_, fun h0 => ?_⟩
 ·have := hD.step _ hk h0 a hmv
  rwa [hnx] at this
 ·have hk2 : zcy e2 < 2 ^ n := by rw [← hnx]; exact zk0 h1 h4
  have hback := zzo h1 h4 hmv
  rw [hnx] at hback
  have := hD.step _ hk2 h0 a hback
  have hnn := zzu h1 h4 hk hin
  rw [hnx] at hnn
  rwa [hnn] at this
theorem zow (h : StpOk n E p) (hE : E.length = n) (h1 : 1 ≤ n) (h4 : n ≤ 4) (hs : zws f E p) : ∀ j, j ≤ p.l.length →
  (0 ≤ zgc f E → 0 ≤ zgc f (aft E (p.l.take j)) ∧ zgc f (aft E (p.l.take j)) ≤ zgc f E + j) ∧
  (0 ≤ zgc f (aft E (p.l.take j)) → 0 ≤ zgc f E ∧ zgc f E ≤ zgc f (aft E (p.l.take j)) + j)
 | 0, _ => ⟨fun h => ⟨h, by show zgc f E ≤ _; omega⟩, fun h => ⟨h, by show zgc f E ≤ zgc f E + _; omega⟩⟩
 | j + 1, hj => by
  obtain ⟨i1, i2⟩ := zow h hE h1 h4 hs j (by omega)
  obtain ⟨s1, s2⟩ := zvu h hE h1 h4 hs (j := j) (by omega)
  refine ⟨fun h0 => ?_, fun h0 => ?_⟩
  ·obtain ⟨x1, x2⟩ := i1 h0
   obtain ⟨y1, y2⟩ := s1 x1
   exact ⟨y1, by omega⟩
  ·obtain ⟨y1, y2⟩ := s2 h0
   obtain ⟨x1, x2⟩ := i2 y1
   exact ⟨x1, by omega⟩
end
def zib (l : List Sp) : Nat := (l.map fun p => p.l.length).sum
theorem zl5 {l : List Sp} {k : Nat} (h : k < l.length) : zib (l.take (k + 1)) = zib (l.take k) + l[k].l.length := by
 unfold zib
 rw [y25, y06 h, y2h, List.sum_append]
 rfl
section
variable {f : List Ex} {n : Nat} {l : List Sp} (ok : SeqOk n l) (h4 : n ≤ 4) (hs : (dgS f 0 (List.replicate n false) l).2.2 = false)
include ok h4 hs
omit ok h4 in
theorem zr7 {k : Nat} (hk : k < l.length) : zws f (zgi (List.replicate n false) (l.take k)) l[k] := by
 have hl := SeqOk.behLen (n := n) (l := l) k
 intro q hq
 refine zo8 l 0 (List.replicate n false) hs k hk q ?_
 rw [y0s]
 rwa [hl] at hq
theorem zu8 : zgc f (List.replicate n false) = 0 := by
 have h1 := ok.n1
 have hi : zcy (List.replicate n false) = 0 := by
  rcases (show n = 1 ∨ n = 2 ∨ n = 3 ∨ n = 4 by omega) with rfl | rfl | rfl | rfl <;> decide
 have hb := zk5 (e := List.replicate n false) (by rw [y0s]; exact h1) (by rw [y0s]; exact h4)
 rw [hi, y0s] at hb
 have hf := zr6 ok hs (k := 0) (y0q _)
 unfold zgc
 rw [y0s, hi]
 exact (zu7 h1 h4 (by rw [hb]; exact hf)).2
theorem zov : ∀ k, k ≤ l.length → 0 ≤ zgc f (zgi (List.replicate n false) (l.take k)) ∧ zgc f (zgi (List.replicate n false) (l.take k)) ≤ zib (l.take k)
 | 0, _ => by
  have := zu8 ok h4 hs
  show 0 ≤ zgc f (List.replicate n false) ∧ zgc f (List.replicate n false) ≤ _
  rw [this]
  exact ⟨y2i _, by show (0 : Int) ≤ ((0 : Nat) : Int); omega⟩
 | k + 1, hk => by
  have hk' : k < l.length := by omega
  obtain ⟨i1, i2⟩ := zov k (by omega)
  have hl := SeqOk.behLen (n := n) (l := l) k
  have := (zow (ok.step hk') hl ok.n1 h4 (zr7 hs hk') l[k].l.length (y0c _)).1 i1
  rw [y1k, ← zgo hk'] at this
  rw [zl5 hk']
  omega
theorem zu9 : ∀ d k, k + d = l.length → zgc f (zgi (List.replicate n false) (l.take k)) + zib (l.take k) ≤ zib l
 | 0, k, hk => by
  obtain rfl : k = l.length := by omega
  rw [y1k, ok.last, zu8 ok h4 hs]
  omega
 | d + 1, k, hk => by
  have hk' : k < l.length := by omega
  have ih := zu9 d (k + 1) (by omega)
  have hl := SeqOk.behLen (n := n) (l := l) k
  have h0 := (zov ok h4 hs (k + 1) (by omega)).1
  rw [zgo hk'] at h0 ih
  have := (zow (ok.step hk') hl ok.n1 h4 (zr7 hs hk') l[k].l.length (y0c _)).2
  rw [y1k] at this
  have := this h0
  rw [zl5 hk'] at ih
  omega
end
open Go Go.Am Go.ChangeShapes Go.WideShapes Go.ChangeAt Go.RowKit
theorem own : ownKnob Try.prog.godebug = none := by kernel_rfl
theorem gok {W : World} : GOk (fun _ => True) W := fun _ hx => absurd hx y0f
theorem solid : zwt Try.prog Try.prog.types.size := solid_of (by kernel_rfl)
theorem fewS_ok {l : List Sp} (h : zyg l = true) : l.length ≤ 128 ∧ ∀ p ∈ l, p.l.length ≤ 40 := by
 unfold zyg at h
 rw [y0g, decide_eq_true_eq, y0e] at h
 exact ⟨h.1, fun p hp => of_decide_eq_true (h.2 p hp)⟩
def znh (n : Int) (l : List Sp) (k : Int) : Bool := decide ((l.length : Int) ≤ k) && (zyg l && (zq4 n l == 0))
-- pneumatic/pneumatictop.caseSmall
def ic111 : IC := .seq (.region [oM 2 (.box (.t 0)),
  oM 4 (.mov (.c (.bool false)))] none)
 (.seq (.region [oF 5 1 2,
  oN 6 5,
  oM 7 (.len false (.t 6)),
  oT 8 1,
  oM 9 (.bin .leq (.t 7) (.t 8)),
  oT 10 9,
  ⟨(some 11), .load (some 2) (.t 2), some (10, true)⟩,
  ⟨(some 12), .call (.c (.fn 16 [] [])) [(.t 11)], some (10, true)⟩,
  oM 13 (.pick (.t 10) (.t 12) (.c (.bool false))),
  oT 14 13,
  ⟨(some 15), .load (some 2) (.t 2), some (14, true)⟩,
  ⟨(some 16), .call (.c (.fn 21 [] [])) [(.t 15)], some (14, true)⟩,
  ⟨(some 17), .bin .eql (.t 16) (.c (.int .i64 0)), some (14, true)⟩,
  oM 18 (.pick (.t 14) (.t 17) (.c (.bool false))),
  oT 4 18] none)
 (.ret))
theorem fn111 : env0.fn 111 = some ⟨19, ic111, [.t 4]⟩ := by kernel_rfl
set_option maxHeartbeats 2000000 in
theorem small111 (n : Int) (l : List Sp) (hl : l.length < 9223372036854775808) (k : Int) : PF Try.prog 111 [.agg (cQ n l), .int .i64 k] (.bool (znh n l k)) := by
 have hcl : (cPs l).length = l.length := zct l
 have q1 : PF Try.prog 16 [.agg [.int .i64 n, .vs (cPs l)]] (.bool (zyg l)) := few12 n l hl
 have q2 : zyg l = true → PF Try.prog 21 [.agg [.int .i64 n, .vs (cPs l)]] (.int .i64 (zq4 n l)) := fun h => by
  obtain ⟨f1, f2⟩ := fewS_ok h
  exact check21 n l (by omega) fun p hp => y0t (f2 p hp) (by decide)
 refine zax env0_ok fn111 [(0, .agg [.int .i64 n, .vs (cPs l)]), (1, .int .i64 k)] (by show 2 ≤ 19; decide) rfl fun w0 N0 => ?_
 unfold ic111 znh
 refine zsr rfl (zbq rfl rfl (za1 rfl (onr rfl (za9 rfl (za6 rfl rfl (zbb rfl rfl (za1 rfl ?_)))))))
 rw [hcl]
 refine zao rfl rfl rfl (fun h => ?_) fun h => ?_
 all_goals
  rw [h]
  repeat (first | refine zai ?_ | refine za8 ?_ | refine zaf ?_ | refine zbc rfl ?_ | refine zbz rfl rfl ?_ | refine za1 rfl ?_ | refine zal rfl rfl rfl rfl ?_ | refine zap rfl rfl ?_)
 ·try refine zbc rfl ?_
  refine zas rfl rfl q1 noC ?_
  cases hf : zyg l with
  | false =>
   refine zau rfl rfl (za1 rfl (zbz rfl rfl (zbz rfl rfl (zbz rfl rfl (zap rfl rfl (za1 rfl (onu (zaf ?_))))))))
   exact zae ⟨.inr rfl, _, rfl, rfl⟩
  | true =>
   have q2 := q2 hf
   refine zau rfl rfl (za1 rfl (zbc rfl (zal rfl rfl rfl rfl (zbc rfl ?_))))
   try refine zbc rfl ?_
   refine zas rfl rfl q2 noC ?_
   refine zbc rfl ?_
   try refine zbc rfl ?_
   refine zao rfl rfl rfl (fun h => ?_) fun h => ?_
   all_goals
    rw [h]
    refine zau rfl rfl (za1 rfl (onu (zaf ?_)))
    exact zae ⟨.inr rfl, _, rfl, rfl⟩
 ·exact zae ⟨.inr rfl, _, rfl, rfl⟩
def zh9 (f : List Ex) (n : Int) (l : List Sp) : Bool := znh n l 8 && (decide (n ≤ 4) && (decide ((f.length : Int) ≤ 8) && (fewB f && (zc0 f n == 0))))
-- pneumatic/pneumatictop.caseGuarded
def ic62 : IC := .seq (.region [oM 2 (.box (.t 0)),
  oM 3 (.box (.t 1)),
  oM 4 (.mov (.c (.bool false)))] none)
 (.seq (.region [oL 5 2 3,
  oM 6 (.call (.c (.fn 111 [] [])) [(.t 5), (.c (.int .i64 8))]),
  oT 7 6,
  ⟨(some 8), .faddr 0 (.t 3), some (7, true)⟩,
  ⟨(some 9), .load none (.t 8), some (7, true)⟩,
  ⟨(some 10), .bin .leq (.t 9) (.c (.int .i64 4)), some (7, true)⟩,
  oM 11 (.pick (.t 7) (.t 10) (.c (.bool false))),
  oT 12 11,
  ⟨(some 13), .faddr 0 (.t 2), some (12, true)⟩,
  ⟨(some 14), .load none (.t 13), some (12, true)⟩,
  ⟨(some 15), .len false (.t 14), some (12, true)⟩,
  ⟨(some 16), .bin .leq (.t 15) (.c (.int .i64 8)), some (12, true)⟩,
  oM 17 (.pick (.t 12) (.t 16) (.c (.bool false))),
  oT 18 17,
  ⟨(some 19), .load (some 1) (.t 2), some (18, true)⟩,
  ⟨(some 20), .call (.c (.fn 15 [] [])) [(.t 19)], some (18, true)⟩,
  oM 21 (.pick (.t 18) (.t 20) (.c (.bool false))),
  oT 22 21,
  ⟨(some 23), .load (some 1) (.t 2), some (22, true)⟩,
  ⟨(some 24), .faddr 0 (.t 3), some (22, true)⟩,
  ⟨(some 25), .load none (.t 24), some (22, true)⟩,
  ⟨(some 26), .call (.c (.fn 67 [] [])) [(.t 23), (.t 25)], some (22, true)⟩,
  ⟨(some 27), .bin .eql (.t 26) (.c (.int .i64 0)), some (22, true)⟩,
  oM 28 (.pick (.t 22) (.t 27) (.c (.bool false))),
  oT 4 28] none)
 (.ret))
theorem fn62 : env0.fn 62 = some ⟨29, ic62, [.t 4]⟩ := by kernel_rfl
set_option maxHeartbeats 2000000 in
theorem zz0 (f : List Ex) (hlen : f.length < 9223372036854775808) (hsl : ∀ y ∈ f, Slim y) (n : Int) (l : List Sp) (hl : l.length < 9223372036854775808) : PF Try.prog 62 [.agg [.vs (cXs f)], .agg (cQ n l)] (.bool (zh9 f n l)) := by
 have hcf : (cXs f).length = f.length := zb4 f
 have q1 : PF Try.prog 111 [.agg [.int .i64 n, .vs (cPs l)], .int .i64 8] (.bool (znh n l 8)) := small111 n l hl 8
 have q2 := few11 f hlen hsl
 have q3 := gcheck29 f hsl n
 refine zax env0_ok fn62 [(0, .agg [.vs (cXs f)]), (1, .agg [.int .i64 n, .vs (cPs l)])] (by show 2 ≤ 29; decide) rfl fun w0 N0 => ?_
 unfold ic62 zh9
 refine zsr rfl (zbq rfl rfl (zbq rfl rfl (za1 rfl (onr rfl (zal rfl rfl rfl rfl ?_)))))
 refine zas rfl rfl q1 noC ?_
 cases h1 : znh n l 8 with
 | false =>
  repeat (first | refine zai ?_ | refine za8 ?_ | refine zaf ?_ | refine zbz rfl rfl ?_ | refine za1 rfl ?_ | refine zap rfl rfl ?_)
  exact zae ⟨.inr rfl, _, rfl, rfl⟩
 | true =>
  refine za1 rfl (zbc rfl (za9 rfl (zbc rfl (za6 rfl rfl (zbc rfl ?_)))))
  try refine zbc rfl ?_
  refine zao rfl rfl rfl (fun h2 => ?_) fun h2 => ?_
  all_goals
   rw [h2]
   repeat (first | refine zai ?_ | refine za8 ?_ | refine zaf ?_ | refine zbc rfl ?_ | refine zbz rfl rfl ?_ | refine za1 rfl ?_ | refine za6 rfl rfl ?_ | refine za9 rfl ?_ | refine zau rfl rfl ?_ | refine zap rfl rfl ?_ | refine zbb rfl rfl ?_)
  ·try refine zbc rfl ?_
   rw [hcf]
   refine zao rfl rfl rfl (fun h3 => ?_) fun h3 => ?_
   all_goals
    rw [h3]
    repeat (first | refine zai ?_ | refine za8 ?_ | refine zaf ?_ | refine zbc rfl ?_ | refine zbz rfl rfl ?_ | refine za1 rfl ?_ | refine zal rfl rfl rfl rfl ?_ | refine zau rfl rfl ?_ | refine zap rfl rfl ?_)
   ·try refine zbc rfl ?_
    refine zas rfl rfl q2 noC ?_
    cases h4 : fewB f with
    | false =>
     refine zau rfl rfl (za1 rfl (zbz rfl rfl (zbz rfl rfl (zbz rfl rfl (zbz rfl rfl (zbz rfl rfl (zap rfl rfl (za1 rfl (onu (zaf ?_))))))))))
     exact zae ⟨.inr rfl, _, rfl, rfl⟩
    | true =>
     refine zau rfl rfl (za1 rfl (zbc rfl (zal rfl rfl rfl rfl (zbc rfl (za9 rfl (zbc rfl (za6 rfl rfl (zbc rfl ?_))))))))
     try refine zbc rfl ?_
     refine zas rfl rfl q3 noC ?_
     refine zbc rfl ?_
     try refine zbc rfl ?_
     refine zao rfl rfl rfl (fun h5 => ?_) fun h5 => ?_
     all_goals
      rw [h5]
      refine zau rfl rfl (za1 rfl (onu (zaf ?_)))
      exact zae ⟨.inr rfl, _, rfl, rfl⟩
   ·exact zae ⟨.inr rfl, _, rfl, rfl⟩
  ·exact zae ⟨.inr rfl, _, rfl, rfl⟩
def tv (D : List Int) (r : Int) (z : Nat) : Int := if D.getD z 0 ≤ r then D.getD z 0 else -1
structure Mix (n : Nat) (D : List Int) (far k : Nat) (out : List Int) : Prop where
 len : out.length = 2 ^ n
 get : ∀ z, z < 2 ^ n → out.getD z 0 = if z < k then tv D (far + 1 : Nat) z else tv D far z
section
variable {l : List Ex} {n : Nat} (h1 : 1 ≤ n) (h4 : n ≤ 4) {D : List Int} (hD : LevW l n D) {far k : Nat} {out : List Int}
include h1 h4 hD
end
section
variable {l : List Ex} {n : Nat} (h1 : 1 ≤ n) (h4 : n ≤ 4)
include h1 h4
end
end Go.Proofs.Ytoiblgbaeglgoaa
