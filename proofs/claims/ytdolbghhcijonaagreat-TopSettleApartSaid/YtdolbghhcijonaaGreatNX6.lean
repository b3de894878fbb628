/-
  control.Right OF RIGHT STATES.; LISTS THAT ARE COPIED; lists that grow; the values of all lines.; THE VALUES OF ALL LINES, as a new list.; GATES THAT ARE COMPUTED: the state that is copied for it.; GATES THAT ARE COMPUTED.; LISTS AND STATES THAT ARE EQUAL.; VALUES OF EXPRESSIONS, AS THE MACHINE COMPUTES THEM; the rules.; THE MACHINE's LINES; states that are copied.; THE MACHINE's MEMORY; its gates
-/
import Derived.Test.YtdolbghhcijonaaGreatNX5
namespace Go.Proofs.YtdolbghhcijonaaGreat
open Go Go.Am
set_option maxRecDepth 100000
def unB (m z : Int) : Bool := decide (z < 0) || decide (z >= m)
-- pneumatic/control.fits$1$1
def ic83 : IC := sR [oM 3 (.mov (.c (.bool false)))]
 (sR [oT 4 0,
  oM 5 (.bin .lss (.t 4) (cI 0)),
  oT 6 5,
  ⟨(some 7), .mov (.t 0), some (6, false)⟩,
  ⟨(some 8), .load none (.t 1), some (6, false)⟩,
  ⟨(some 9), .bin .geq (.t 7) (.t 8), some (6, false)⟩,
  oM 10 (.pick (.t 6) (.c (.bool true)) (.t 9)),
  oT 3 10]
 (.ret))
theorem fn83 : env0.fn 83 = some ⟨11, ic83, [.t 3]⟩ := by kernel_rfl
set_option maxRecDepth 100000 in
theorem fits83 (m z : Int) : PF Tryz.prog 83 [.int .i64 z, .vptr [.int .i64 m]] (.bool (unB m z)) := by
 refine za6 env0_ok fn83 [(0, .int .i64 z), (1, .vptr [.int .i64 m])] (y04 rfl) rfl fun w0 N0 => ?_;unfold ic83 unB;refine zk4 ?_;refine za4 rfl rfl rfl (fun h => ?_) fun h => ?_
 ·rw [show decide (z < 0) = true from h]
  refine ze6 ?_;exact uE
 ·rw [show decide (z < 0) = false from h]
  refine ggf2 ?_;refine za4 rfl rfl rfl (fun h => ?_) fun h => ?_;all_goals
   have h : decide (z >= m) = _ := h;rw [h];refine ggf2 ?_;exact uE
-- pneumatic/control.fits$1
def ic82 : IC := sR [oM 1 (.box (.t 0)),
  oM 2 (.mov (.c (.nilf)))]
 (sR [oM 3 (.mkfn 83 [] [(.t 1)]),
  oT 2 3]
 (.ret))
theorem fn82 : env0.fn 82 = some ⟨4, ic82, [.t 2]⟩ := by kernel_rfl
theorem fits82 (m : Int) : PF Tryz.prog 82 [.int .i64 m] (.fn 83 [] [.vptr [.int .i64 m]]) := by
 refine za6 env0_ok fn82 [(0, .int .i64 m)] (y04 rfl) rfl fun w0 N0 => ?_;unfold ic82;refine ze6 ?_;exact uE
theorem zxc {l : List Int} {m : Int} (h : inR l m) : l.any (unB m) = false := by
 rw [List.any_eq_false];intro z hz;obtain ⟨j, hj, rfl⟩ := List.getElem_of_mem hz;have := h j hj;have e1 : zA l j = l[j] := by unfold zA; rw [y0j, y0d hj]; rfl
 rw [e1] at this;unfold unB;simp;omega
theorem zlw {f g : FuncId} {args xs : List AV} {v u : AV} {l : List (FuncId × List AV × AV)} (hn : xs ≠ args) (h : zer l f args = some v) : zer ((g, xs, u) :: l) f args = some v := by simp [zer, hn, h]
def b57_0 : IC := sR [oM 66 (.bin .lss (.t 65) (.t 64))]
 (.seq (.cond (.t 66) (.skip)
 (.exit 0))
 (.seq (.block 1 (sR [oT 67 65,
  oM 68 (.idxs 1 (.t 63) (.t 65)),
  oN 69 68,
  oT 7 67,
  oT 8 69]
 (sR [oF 70 2 2,
  oN 71 70,
  oT 72 7,
  oM 73 (.idxs 10 (.t 71) (.t 72)),
  oF 74 1 73,
  oN 75 74,
  oM 76 (.bin .eql (.t 75) (cI 2)),
  oT 9 76]
 (sR [oT 77 9,
  oM 78 (.un .not (.t 77)),
  oT 79 78,
  ⟨(some 80), .mov (.t 8), some (79, true)⟩,
  ⟨(some 81), .bin .neq (.t 80) (cI 0), some (79, true)⟩,
  oM 82 (.pick (.t 79) (.t 81) (.c (.bool false))),
  oT 83 82,
  ⟨(some 84), .mov (.t 9), some (83, false)⟩,
  ⟨(some 85), .mov (.t 84), some (83, false)⟩,
  ⟨(some 86), .faddr 3 (.t 3), some (85, true)⟩,
  ⟨(some 87), .load none (.t 86), some (85, true)⟩,
  ⟨(some 88), .mov (.t 7), some (85, true)⟩,
  ⟨(some 89), .idxs 1 (.t 87) (.t 88), some (85, true)⟩,
  ⟨(some 90), .load none (.t 89), some (85, true)⟩,
  ⟨(some 91), .mov (.t 8), some (85, true)⟩,
  ⟨(some 92), .bin .eql (.t 91) (cI 2), some (85, true)⟩,
  ⟨(some 93), .eqb true (.t 90) (.t 92), some (85, true)⟩,
  ⟨(some 94), .pick (.t 85) (.t 93) (.c (.bool false)), some (83, false)⟩,
  oM 95 (.pick (.t 83) (.c (.bool true)) (.t 94))]
 (.cond (.t 95) (sR [oM 4 (.mov (cI 14))]
 (.ret))
 (.skip))))))
 (.region [oM 96 (.bin .add (.t 65) (cI 1)),
  oT 65 96] none)))
-- pneumatic/control.fits
def ic57 : IC := sR [oM 2 (.box (.t 0)),
  oM 3 (.box (.t 1)),
  oM 4 (.mov (cI 0))]
 (sR [oF 10 2 2,
  oN 11 10,
  oM 12 (.len false (.t 11)),
  oT 5 12]
 (.seq (sR [oF 13 0 3,
  oN 14 13,
  oM 15 (.len false (.t 14)),
  oF 16 0 2,
  oN 17 16,
  oM 18 (.bin .neq (.t 15) (.t 17)),
  oT 19 18,
  ⟨(some 20), .faddr 1 (.t 3), some (19, false)⟩,
  ⟨(some 21), .load none (.t 20), some (19, false)⟩,
  ⟨(some 22), .len false (.t 21), some (19, false)⟩,
  ⟨(some 23), .faddr 0 (.t 2), some (19, false)⟩,
  ⟨(some 24), .load none (.t 23), some (19, false)⟩,
  ⟨(some 25), .bin .neq (.t 22) (.t 24), some (19, false)⟩,
  oM 26 (.pick (.t 19) (.c (.bool true)) (.t 25)),
  oT 27 26,
  ⟨(some 28), .faddr 2 (.t 3), some (27, false)⟩,
  ⟨(some 29), .load none (.t 28), some (27, false)⟩,
  ⟨(some 30), .len false (.t 29), some (27, false)⟩,
  ⟨(some 31), .faddr 1 (.t 2), some (27, false)⟩,
  ⟨(some 32), .load none (.t 31), some (27, false)⟩,
  ⟨(some 33), .len false (.t 32), some (27, false)⟩,
  ⟨(some 34), .bin .neq (.t 30) (.t 33), some (27, false)⟩,
  oM 35 (.pick (.t 27) (.c (.bool true)) (.t 34)),
  oT 36 35,
  ⟨(some 37), .faddr 3 (.t 3), some (36, false)⟩,
  ⟨(some 38), .load none (.t 37), some (36, false)⟩,
  ⟨(some 39), .len false (.t 38), some (36, false)⟩,
  ⟨(some 40), .mov (.t 5), some (36, false)⟩,
  ⟨(some 41), .bin .neq (.t 39) (.t 40), some (36, false)⟩,
  oM 42 (.pick (.t 36) (.c (.bool true)) (.t 41)),
  oT 43 42,
  ⟨(some 44), .faddr 4 (.t 3), some (43, false)⟩,
  ⟨(some 45), .load none (.t 44), some (43, false)⟩,
  ⟨(some 46), .len false (.t 45), some (43, false)⟩,
  ⟨(some 47), .mov (.t 5), some (43, false)⟩,
  ⟨(some 48), .bin .neq (.t 46) (.t 47), some (43, false)⟩,
  oM 49 (.pick (.t 43) (.c (.bool true)) (.t 48))]
 (.cond (.t 49) (sR [oM 4 (.mov (cI 8))]
 (.ret))
 (.skip)))
 (sR [oM 6 (.mov (.c (.fn 82 [] [])))]
 (.seq (.seq (.region [oF 50 0 3,
  oN 51 50,
  oT 52 6,
  oM 53 (.call (.t 52) [(cI 4)]),
  oM 54 (.call (.c (.fn 84 [] [])) [(.t 51), (.t 53)]),
  oT 55 54,
  ⟨(some 56), .faddr 4 (.t 3), some (55, false)⟩,
  ⟨(some 57), .load none (.t 56), some (55, false)⟩,
  ⟨(some 58), .mov (.t 6), some (55, false)⟩,
  ⟨(some 59), .call (.t 58) [(cI 3)], some (55, false)⟩,
  ⟨(some 60), .call (.c (.fn 84 [] [])) [(.t 57), (.t 59)], some (55, false)⟩,
  oM 61 (.pick (.t 55) (.c (.bool true)) (.t 60))] (some [[], [0], [], [2], [1, 3, 3], [4, 4], [5], [6, 5], [5], [8, 5, 5], [7, 9, 9, 5], [5, 10]]))
 (.cond (.t 61) (sR [oM 4 (.mov (cI 1))]
 (.ret))
 (.skip)))
 (.seq (sR [oF 62 4 3,
  oN 63 62,
  oM 64 (.len false (.t 63)),
  oM 65 (.mov (cI 0))]
 (.block 0 (.loop b57_0)))
 (sR [oM 4 (.mov (cI 0))]
 (.ret)))))))
theorem fn57 : env0.fn 57 = some ⟨97, ic57, [.t 4]⟩ := by kernel_rfl
set_option maxHeartbeats 8000000 in
set_option maxRecDepth 100000 in
theorem fits57 {c : Ctl} {s : Sta} (h : Ct c) (hs : Ss c s) : PF Tryz.prog 57 [.agg (cC c), .agg (cS s)] (.int .i64 0) := by
 have hn := zor c.ins;have hg := zel c.sg;have he := zfn s.en;have hv := zjg s.va;have hi := zjg s.inp;have hb := zjg s.vals;have ht := zfn s.tms;have he40 := hs.e;have hs128 := h.s;have ht200 := hs.t;obtain ⟨k1, k2, k3, k4, k5⟩ := hs.sh;have p84e := zhx (P := unB 4) (g := 83) (fi := []) (ca := [.vptr [.int .i64 4]]) (fun z => fits83 4 z) (fun S => ⟨rfl, rfl⟩) (fun S => rfl) s.en (by omega);have p84t := zhx (P := unB 3) (g := 83) (fi := []) (ca := [.vptr [.int .i64 3]]) (fun z => fits83 3 z) (fun S => ⟨rfl, rfl⟩) (fun S => rfl) s.tms (by omega);rw [zxc hs.e4] at p84e;rw [zxc hs.t3] at p84t;have p4 := fits82 4;have p3 := fits82 3;refine za6 env0_ok fn57 [(0, .agg (cC c)), (1, .agg (cS s))] (y04 rfl) rfl fun w0 N0 => ?_;unfold ic57;have k3' : ((s.inp.length : Nat) : Int) = (c.ins.length : Nat) := by omega
 have k4' : ((s.vals.length : Nat) : Int) = (c.sg.length : Nat) := by omega
 have k5' : ((s.tms.length : Nat) : Int) = (c.sg.length : Nat) := by omega
 unfold cC cS vsN vsG vsI vsB at *;refine zi2 ?_;rw [he];refine za4 rfl rfl rfl (fun h1 => absurd k1 (bne_iff_ne.1 h1)) fun _ => ?_;refine zi2 ?_;rw [hv];refine za4 rfl rfl rfl (fun h1 => absurd k2 (bne_iff_ne.1 h1)) fun _ => ?_;refine zi2 ?_;rw [hi, hn];refine za4 rfl rfl rfl (fun h1 => absurd k3' (bne_iff_ne.1 h1)) fun _ => ?_;refine zi2 ?_;rw [hb, hg];refine za4 rfl rfl rfl (fun h1 => absurd k4' (bne_iff_ne.1 h1)) fun _ => ?_;refine zi2 ?_;rw [ht];refine za4 rfl rfl rfl (fun h1 => absurd k5' (bne_iff_ne.1 h1)) fun _ => ?_;refine ggf2 ?_;refine zc3 [] [(0, 0, cC c), (1, 1, cS s)] [(2, .vptr (cC c)), (3, .vptr (cS s)), (4, .int .i64 0), (6, .fn 82 [] [])] rfl (.cons rfl rfl (.cons rfl rfl .nil)) .nil (.cons rfl (.fptr rfl rfl) (.cons rfl (.fptr rfl rfl) (.cons rfl (.same rfl) (.cons rfl (.same rfl) .nil)))) ?_;unfold cC cS vsN vsG vsI vsB at *;refine zsl env0_ok ((82, [.int .i64 4], _) :: (82, [.int .i64 3], _) :: _) (fun x hx => by
  rcases y0f.1 hx with rfl | hx
  ·exact p4
  ·rcases y0f.1 hx with rfl | hx
   ·exact p3
   ·exact hL2 p84e p84t x hx) (fun g => Nat.beq g 84) [] (fun x hx => by cases hx) false (fun _ => false) (fun _ => true) (fun _ _ => rfl) (fun _ h _ => Bool.noConfusion h) rfl rfl rfl rfl ?_
 refine zi2 ?_;refine zes rfl rfl rfl zb6 noC ?_;refine ze6 ?_;refine zes rfl rfl rfl (zlw (fun e => by injection e with e; injection e with _ e; exact absurd e (by decide)) zb6) noC ?_;repeat (first | refine zgy rfl ?_)
 refine zal rfl rfl (zd3 (by decide) (zd3 (by decide) (zlw (fun e => by
  injection e with _ e; injection e with e; injection e with _ _ e; injection e with e; injection e with e; injection e with e; injection e with _ e; exact absurd e (by decide)) zb6))) noC ?_
 refine zi2 ?_;rw [ht];refine zav (fun mm S => ∃ j, mm = s.tms.length - j /\ j <= s.tms.length /\ S = st 97 [(2, .vptr (cC c)), (3, .vptr (cS s)), (63, vsI s.tms), (64, .int .i64 (s.tms.length : Nat)), (65, .int .i64 (j : Nat))] [] 0 1) s.tms.length
  skp ⟨0, rfl, y0r _, rfl⟩ ?_
 rintro mm S ⟨j, rfl, hj, rfl⟩;unfold b57_0 cS cC vsI vsB vsG;refine zk4 ?_;refine za4 rfl rfl rfl (fun h3 => ?_) fun h3 => ?_
 ·have hlt : j < s.tms.length := y1i.1 (of_decide_eq_true h3);have hgt := zij hlt;have hgb := zsn (l := s.vals) (i := j) (by omega);have hgs := zdi (sg := c.sg) (i := j) (by omega);have htk := hs.tk j hlt;have w2 := za7 j (by omega);unfold tkB at htk;generalize zA s.tms j = z at *;generalize bA s.vals j = b at *;generalize sgA c.sg j = sj at *;refine zfk ?_;refine za4 rfl rfl rfl (fun h5 => ?_) fun h5 => ?_
  ·have h5 : sj.kd = 2 := by simpa using h5
   rw [if_pos h5] at htk;refine ze6 ?_;refine za4 rfl rfl rfl (fun h6 => ?_) fun h6 => ?_
   ·have h6 : z = 2 := by simpa using h6
    have hb1 : b = true := by simpa [h6] using htk
    subst hb1;refine ze6 ?_;rw [w2];exact zad (show s.tms.length - (j + 1) < s.tms.length - j by omega) skp ⟨j + 1, rfl, hlt, rfl⟩
   ·have h6 : ¬ z = 2 := by simpa using h6
    have hb1 : b = false := by simpa [h6] using htk
    subst hb1;refine ze6 ?_;rw [w2];exact zad (show s.tms.length - (j + 1) < s.tms.length - j by omega) skp ⟨j + 1, rfl, hlt, rfl⟩
  ·have h5 : ¬ sj.kd = 2 := by simpa using h5
   rw [if_neg h5] at htk;have h6 : z = 0 := by simpa using htk
   subst h6;refine ze6 ?_;rw [w2];exact zad (show s.tms.length - (j + 1) < s.tms.length - j by omega) skp ⟨j + 1, rfl, hlt, rfl⟩
 ·refine zfk ?_;refine zbq ?_;refine zfk ?_;exact uE
-- pneumatic/control.Right
def ic30 : IC := sR [oM 2 (.box (.t 0)),
  oM 3 (.box (.t 1)),
  oM 4 (.mov (cI 0))]
 (.seq (sR [oL 6 5 2,
  oM 7 (.call (.c (.fn 45 [] [])) [(.t 6)]),
  oT 5 7]
 (sR [oT 8 5,
  oM 9 (.bin .neq (.t 8) (cI 0))]
 (.cond (.t 9) (sR [oT 10 5,
  oT 4 10]
 (.ret))
 (.skip))))
 (sR [oL 11 5 2,
  oL 12 5 3,
  oM 13 (.call (.c (.fn 57 [] [])) [(.t 11), (.t 12)]),
  oT 4 13]
 (.ret)))
theorem fn30 : env0.fn 30 = some ⟨14, ic30, [.t 4]⟩ := by kernel_rfl
set_option maxRecDepth 100000 in
theorem right30 {c : Ctl} {s : Sta} (h : Ct c) (hs : Ss c s) : PF Tryz.prog 30 [.agg (cC c), .agg (cS s)] (.int .i64 0) := by
 have p45 := zum h;have p57 := fits57 h hs;refine za6 env0_ok fn30 [(0, .agg (cC c)), (1, .agg (cS s))] (y04 rfl) rfl fun w0 N0 => ?_;unfold ic30;unfold cC cS at *;refine zk5 ?_;exact uE
set_option maxRecDepth 100000
def Gq (sz b : Nat) (es : List (List AV)) (w : AV) (hp : List (Nat × Nat × AObj)) (nx : Nat) : Prop :=
 (es = [] /\ w = .nils) \/ ∃ id sp, w = .ms id sp sz 0 es.length none /\ Am.look id hp = some (sp, .cells es.flatten) /\ b <= id /\ id < nx /\ es ≠ []
theorem zrc {sz : Nat} : ∀ {es : List (List AV)}, (∀ e ∈ es, e.length = sz) -> es.flatten.length = es.length * sz
 | [], _ => by simp
 | e :: es, h => by
  rw [y1c, y0l, h e (y01 ..), zrc fun x hx => h x (y0a _ hx), y19, y2o];omega
section
variable {P : Program} {w0 : World} {N0 : Nat} {k : List Fr} {Q : Exit -> AS -> Prop} {ios : List Opr} {n nx ck : Nat} {md : Md} {l : List (Nat × AV)} {hp : List (Nat × Nat × AObj)} {sz b : Nat} {es : List (List AV)} {w : AV}
theorem Gq.fresh (h : Gq sz b es w hp nx) (ck : Nat) (x : AObj) : Gq sz b es w ((nx, ck, x) :: hp) (nx + 1) := by
 rcases h with h | ⟨id, sp, e, hl, h1, h2, h3⟩
 ·exact .inl h
 ·exact .inr ⟨id, sp, e, by rw [zak, if_neg (by omega)]; exact hl, h1, by omega, h3⟩
theorem Gq.of {hp' : List (Nat × Nat × AObj)} {nx' : Nat} (h : Gq sz b es w hp nx) (hn : nx <= nx') (hk : ∀ i, b <= i -> i < nx -> Am.look i hp' = Am.look i hp) : Gq sz b es w hp' nx' := by
 rcases h with h | ⟨id, sp, e, hl, h1, h2, h3⟩
 ·exact .inl h
 ·exact .inr ⟨id, sp, e, (hk id h1 h2).trans hl, h1, by omega, h3⟩
theorem zt5 {pf : Kn} {d bytes : Nat} {z : List AV} {s x : Arg} {xv : AV} (es2 : List (List AV)) (hG : Gq sz b es w hp nx) (hsz : ∀ e ∈ es, e.length = sz) (hs : zar s l = some w) (hx : zar x l = some xv) (he : (st n l hp nx ck []).elems sz xv = some es2) (hc : es2.flatten.all AV.isCell = true) (hb : bytes <= 16777216) (hbn : b <= nx) (hle : es.length + es2.length <= 1000000)
  (go : ∀ w' hp' nx' ck', Gq sz b (es ++ es2) w' hp' nx' -> nx <= nx' -> (∀ i, i < b -> Am.look i hp' = Am.look i hp) -> Om P w0 N0 md pf ios (st n ((d, w') :: l) hp' nx' ck') k Q)
  (hxo : Ops pf (st n l hp nx ck) (.append sz bytes z s x) := by first | exact fun _ _ _ _ _ _ _ => rfl | exact apOk rfl rfl | exact zw8 rfl) :
  Om P w0 N0 md pf (⟨some d, .append sz bytes z s x, none⟩ :: ios) (st n l hp nx ck) k Q := by
 by_cases h0 : es2 = []
 ·subst h0;have g := go w hp nx ck (by rw [y0s]; exact hG) (y08 _) fun _ _ => rfl;have hi : iop (st n l hp nx ck) (.append sz bytes z s x) = some (w, st n l hp nx ck) := by
   simp only [iop, zag, hs, hx, he];rcases hG with ⟨rfl, rfl⟩ | ⟨id, sp, rfl, _, _, _⟩ <;> rfl
  exact zdf hi g hxo
 ·have hl0 : ¬ es2.length = 0 := fun e => h0 (y0k.1 e);rcases hG with ⟨rfl, rfl⟩ | ⟨id, sp, rfl, hl, h1, h2, h3⟩
  ·have hi : iop (st n l hp nx ck) (.append sz bytes z s x) = some (.ms nx ck sz 0 es2.length none, st n l ((nx, ck, .cells es2.flatten) :: hp) (nx + 1) (ck + 1)) := by
    simp only [iop, zag, hs, hx, he];unfold zbv;rw [if_neg hl0, if_pos ⟨hc, hb⟩];dsimp only;rw [if_pos (by omega)];rfl
   exact zdf hi (go _ _ _ _ (.inr ⟨nx, ck, rfl, za3, hbn, y07 _, h0⟩) (y0y _) fun i hi => by rw [zak, if_neg (by omega)]) hxo
  ·refine zgr es2 hs hx he hl0 hc hb hl (zrc hsz).symm (by omega) ?_ hxo;refine go _ _ _ _ (.inr ⟨id, ck, by rw [y0l], by rw [za0, if_pos rfl, List.flatten_append], h1, h2, fun e => h0 (List.append_eq_nil_iff.1 e).2⟩) (y08 _) fun i hi => by rw [za0, if_neg (by omega)]
end
def bC (l : List Bool) : List AV := l.map AV.bool
def zC (l : List Int) : List AV := l.map (AV.int .i64)
theorem zft (l : List Bool) : flat.flatL (bC l) = true := by
 unfold bC
 induction l with
 | nil => rfl
 | cons b l ih => exact ih
theorem zjf (l : List Bool) : (bC l).all AV.isCell = true := by
 unfold bC;rw [y0h];intro x hx;obtain ⟨_, _, rfl⟩ := y0p.1 hx;rfl
theorem zpc (l : List Int) : (zC l).all AV.isCell = true := by
 unfold zC;rw [y0h];intro x hx;obtain ⟨_, _, rfl⟩ := y0p.1 hx;rfl
theorem zbi {α : Type} (f : α -> AV) (l : List α) : (l.map fun x => ([f x] : List AV)).flatten = l.map f := by
 induction l with
 | nil => rfl
 | cons v l ih => rw [y1d, y1c, ih]; rfl
theorem zd5 {S : AS} {d id sp len : Nat} {cap : Option Nat} (a : List Bool) (hn : a.length = len) (hl : Am.look id S.heap = some (sp, .cells (bC a))) : S.view (d + 1) (.ms id sp 1 0 len cap) = vsB a := by
 subst hn;have e : S.elems 1 (.ms id sp 1 0 a.length cap) = some (a.map fun b => ([.bool b] : List AV)) := by
  have hf : bC a = (a.map fun b => ([.bool b] : List AV)).flatten := (zbi AV.bool a).symm;have hh : ∀ x ∈ (a.map fun b => ([.bool b] : List AV)), x.length = 1 := fun x hx => by obtain ⟨_, _, rfl⟩ := y0p.1 hx; rfl
  have hch := zlh hh;rw [y06, <- hf] at hch;simp only [AS.elems, hl];rw [if_pos ⟨trivial, trivial, by unfold bC; rw [y06]; omega⟩, y26, hch]
 simp only [AS.view, e];unfold vsB;rw [y2d];refine congrArg AV.vs (List.map_congr_left fun b _ => ?_);cases d <;> rfl
-- slices.Clone[[]int,int]
def ic58 : IC := sR [oM 2 (.mov (.c (.nils)))]
 (.seq (sR [oT 3 0,
  oM 4 (.nilq false (.t 3))]
 (.cond (.t 4) (sR [oM 2 (.mov (.c (.nils)))]
 (.ret))
 (.skip)))
 (sR [oM 5 (.bslice 1 0 [] []),
  oT 6 0,
  oM 7 (.append 1 8 [.int .i64 0] (.t 5) (.t 6)),
  oT 2 7]
 (.ret)))
theorem fn58 : env0.fn 58 = some ⟨8, ic58, [.t 2]⟩ := by kernel_rfl
set_option maxRecDepth 100000 in
theorem zup (l : List Int) (hl : l.length <= 1000000) : PF Tryz.prog 58 [vsI l] (vsI l) := by
 cases l with
 | nil =>
  refine za6 env0_ok fn58 [(0, vsI [])] (y04 rfl) rfl fun w0 N0 => ?_;unfold ic58 vsI;refine zcj ?_;refine o_nilq rfl fun b => ?_;cases b with
  | true =>
   refine zbu ?_;exact uE
  | false =>
   refine zbh ?_;exact uE
 | cons x l =>
  have hce := zpc (x :: l);have hlm : ((x :: l).map fun b => ([AV.int .i64 b] : List AV)).length = (x :: l).length := y06 ..;have hfl := zbi (AV.int .i64) (x :: l);refine za6 env0_ok fn58 [(0, vsI (x :: l))] (y04 rfl) rfl fun w0 N0 => ?_;unfold ic58 vsI;refine zcj ?_;refine zdf (v := .bool false) rfl ?_ (by trivial);refine zbh ?_;refine zei ((x :: l).map fun b => ([AV.int .i64 b] : List AV)) rfl rfl (zcu fun x hx => by obtain ⟨_, _, rfl⟩ := y0p.1 hx; rfl) (by simp) (by rw [zbi]; exact hce) (by decide) rfl (by rw [y06]; omega) ?_;rw [hlm, hfl];refine zcj ?_;exact zaa ⟨.inr rfl, _, rfl, zds (x :: l) rfl rfl⟩
set_option maxRecDepth 100000 in
theorem clone58o (l : List Int) (hne : l ≠ []) (hl : l.length <= 1000000) : PFo Tryz.prog 58 [vsI l] 1 l.length none (zC l) := by
 cases l with
 | nil => exact absurd rfl hne
 | cons x l =>
  have hce := zpc (x :: l);have hlm : ((x :: l).map fun b => ([AV.int .i64 b] : List AV)).length = (x :: l).length := y06 ..;have hfl := zbi (AV.int .i64) (x :: l);refine zev (zhy _) fun w0 N0 => ?_;refine zbl env0_ok fn58 [(0, vsI (x :: l))] (y04 rfl) rfl ?_;unfold ic58 vsI;refine zcj ?_;refine zdf (v := .bool false) rfl ?_ (by trivial);refine zbh ?_;refine zei ((x :: l).map fun b => ([AV.int .i64 b] : List AV)) rfl rfl (zcu fun x hx => by obtain ⟨_, _, rfl⟩ := y0p.1 hx; rfl) (by simp) (by rw [zbi]; exact hce) (by decide) rfl (by rw [y06]; omega) ?_;rw [hlm, hfl];refine zcj ?_;exact zaa ⟨.inr rfl, _, rfl, 1, 1, rfl, rfl⟩
-- slices.Clone[[]bool,bool]
def ic59 : IC := sR [oM 2 (.mov (.c (.nils)))]
 (.seq (sR [oT 3 0,
  oM 4 (.nilq false (.t 3))]
 (.cond (.t 4) (sR [oM 2 (.mov (.c (.nils)))]
 (.ret))
 (.skip)))
 (sR [oM 5 (.bslice 1 0 [] []),
  oT 6 0,
  oM 7 (.append 1 1 [.bool false] (.t 5) (.t 6)),
  oT 2 7]
 (.ret)))
theorem fn59 : env0.fn 59 = some ⟨8, ic59, [.t 2]⟩ := by kernel_rfl
set_option maxRecDepth 100000 in
theorem zpk (l : List Bool) (hl : l.length <= 1000000) : PF Tryz.prog 59 [vsB l] (vsB l) := by
 cases l with
 | nil =>
  refine za6 env0_ok fn59 [(0, vsB [])] (y04 rfl) rfl fun w0 N0 => ?_;unfold ic59 vsB;refine zcj ?_;refine o_nilq rfl fun b => ?_;cases b with
  | true =>
   refine zbu ?_;exact uE
  | false =>
   refine zbh ?_;exact uE
 | cons x l =>
  have hce := zjf (x :: l);have hlm : ((x :: l).map fun b => ([AV.bool b] : List AV)).length = (x :: l).length := y06 ..;have hfl := zbi (AV.bool) (x :: l);refine za6 env0_ok fn59 [(0, vsB (x :: l))] (y04 rfl) rfl fun w0 N0 => ?_;unfold ic59 vsB;refine zcj ?_;refine zdf (v := .bool false) rfl ?_ (by trivial);refine zbh ?_;refine zei ((x :: l).map fun b => ([AV.bool b] : List AV)) rfl rfl (zcu fun x hx => by obtain ⟨_, _, rfl⟩ := y0p.1 hx; rfl) (by simp) (by rw [zbi]; exact hce) (by decide) rfl (by rw [y06]; omega) ?_;rw [hlm, hfl];refine zcj ?_;exact zaa ⟨.inr rfl, _, rfl, zd5 (x :: l) rfl rfl⟩
set_option maxRecDepth 100000 in
theorem clone59o (l : List Bool) (hne : l ≠ []) (hl : l.length <= 1000000) : PFo Tryz.prog 59 [vsB l] 1 l.length none (bC l) := by
 cases l with
 | nil => exact absurd rfl hne
 | cons x l =>
  have hce := zjf (x :: l);have hlm : ((x :: l).map fun b => ([AV.bool b] : List AV)).length = (x :: l).length := y06 ..;have hfl := zbi (AV.bool) (x :: l);refine zev (zft _) fun w0 N0 => ?_;refine zbl env0_ok fn59 [(0, vsB (x :: l))] (y04 rfl) rfl ?_;unfold ic59 vsB;refine zcj ?_;refine zdf (v := .bool false) rfl ?_ (by trivial);refine zbh ?_;refine zei ((x :: l).map fun b => ([AV.bool b] : List AV)) rfl rfl (zcu fun x hx => by obtain ⟨_, _, rfl⟩ := y0p.1 hx; rfl) (by simp) (by rw [zbi]; exact hce) (by decide) rfl (by rw [y06]; omega) ?_;rw [hlm, hfl];refine zcj ?_;exact zaa ⟨.inr rfl, _, rfl, 1, 1, rfl, rfl⟩
def zfh (en : List Int) (inp : List Bool) : List Bool := (en.flatMap fun e => [e == 0, e == 2]) ++ inp
def zfo (s : Sta) : List Bool := zfh s.en s.inp ++ s.vals
theorem zgt (en : List Int) (inp : List Bool) : (zfh en inp).length = 2 * en.length + inp.length := by
 unfold zfh;rw [y0l];congr 1
 induction en with
 | nil => rfl
 | cons e en ih => rw [List.flatMap_cons, y0l, ih, y19]; simp; omega
theorem zr8 {n nx ck : Nat} {l : List (Nat × AV)} {hp : List (Nat × Nat × AObj)} (q : List Bool) : (st n l hp nx ck []).elems 1 (vsB q) = some (q.map fun b => [.bool b]) :=
 zcu fun x hx => by obtain ⟨_, _, rfl⟩ := y0p.1 hx; rfl
theorem zqx (q : List Bool) : (q.map fun b => ([.bool b] : List AV)).flatten.all AV.isCell = true := by
 rw [zbi]; exact zjf q
theorem zlu (q : List Bool) : ∀ e ∈ (q.map fun b => ([.bool b] : List AV)), e.length = 1 := fun x hx => by obtain ⟨_, _, rfl⟩ := y0p.1 hx; rfl
def swL (en : List Int) : List Bool := en.flatMap fun e => [e == 0, e == 2]
theorem znh (en : List Int) : (swL en).length = 2 * en.length := by
 have := zgt en [];unfold zfh at this;rw [y0s] at this;exact this
theorem zsc {en : List Int} {i : Nat} (h : i < en.length) : swL (en.take (i + 1)) = swL (en.take i) ++ [zA en i == 0, zA en i == 2] := by
 unfold swL;rw [List.take_add_one, y0d h, List.flatMap_append];have e1 : zA en i = en[i] := by unfold zA; rw [y0j, y0d h]; rfl
 rw [e1];rfl
theorem zq4 {i : Nat} {l : List Nat} (h : i ∉ l) : zt2 i l = false := by
 cases hb : zt2 i l with
 | false => rfl
 | true => exact absurd (zj4.1 hb) h
theorem zqm {P : Program} {w0 : World} {N0 : Nat} {rd : Option (Nat × Nat)} {ios : List Opr} {pres : List (List Nat)} {K : AS -> Prop} {n nn nx ck i : Nat} {D : List Nat} {l : List (Nat × AV)} {hp : List (Nat × Nat × AObj)} {d : Nat} {f : FuncId} {args : List Arg} {vs xs : List AV} {sz len : Nat} {cap : Option Nat} {cs : List AV} (hio : ios[i]? = some ⟨some d, .call (.c (.fn f [] [])) args, none⟩) (hd : zc6 nn (some d) = true) (ha : zeo args l = some vs) (hv : vs.map ((st nn l hp nx ck).view VD) = xs) (hpf : PFo P f xs sz len cap cs) (hfl : flat.flatL cs = true)
  (go : AnyF P w0 N0 rd ios pres n (i :: D) (st nn ((d, .ms nx ck sz 0 len cap) :: l) ((nx, ck, .cells cs) :: hp) (nx + 1) (ck + 1)) K) : StF P w0 N0 rd ios pres n D (st nn l hp nx ck) K i := by
 refine af_ct (fv := .fn f [] []) (fun v H => v = .ms nx ck sz 0 len cap /\ H = ⟨(nx, ck, .cells cs) :: hp, nx + 1, ck + 1⟩) hio hd rfl ha (zgo ?_) (fun v H _ m hm => absurd hm y0c) fun v H ⟨e1, e2⟩ => by subst e1 e2; exact go
 refine znv hfl ?_;rw [y1y, y0s];have hvw : (⟨0, .nil, hp, nx, ck, []⟩ : AS).view VD = (st nn l hp nx ck).view VD := funext fun x => by
  have : ∀ (d : Nat) (x : AV), (⟨0, .nil, hp, nx, ck, []⟩ : AS).view d x = (st nn l hp nx ck).view d x := by
   intro d
   induction d with
   | zero => intro x; rfl
   | succ d ih =>
    intro x;have ih' : (⟨0, .nil, hp, nx, ck, []⟩ : AS).view d = (st nn l hp nx ck).view d := funext ih;cases x <;> simp only [AS.view, ih'] <;> rfl
  exact this VD x
 show PFo P f (vs.map ((⟨0, .nil, hp, nx, ck, []⟩ : AS).view VD)) sz len cap cs;rw [hvw, hv];exact hpf
def zf1 : List AV := [.nils, .nils, .nils, .nils, .nils]
def wvA (v : List Bool) (n s : Nat) : AV := if v = [] then vsB [] else .ms n s 1 0 v.length none
def wtA (own : Bool) (t : List Int) (n s : Nat) : AV := if own = true /\ t ≠ [] then .ms n s 1 0 t.length none else vsI t
theorem zh0 {a : Nat} {v : AV} {l : List (Nat × AV)} (h : zah a l = some v) : zeo [.t a] l = some [v] := by
 unfold zeo;rw [show zar (.t a) l = some v from h]
 rfl
theorem zsi (v : List Bool) (n s : Nat) : (wvA v n s).cells? = some [wvA v n s] := by
 unfold wvA;split <;> rfl
theorem zsh (own : Bool) (t : List Int) (n s : Nat) : (wtA own t n s).cells? = some [wtA own t n s] := by
 unfold wtA;split <;> rfl
theorem zii (v : List Bool) (n s : Nat) : (wvA v n s).isCell = true := by
 unfold wvA;split <;> rfl
theorem zig (own : Bool) (t : List Int) (n s : Nat) : (wtA own t n s).isCell = true := by
 unfold wtA;split <;> rfl
theorem zea {off a : Nat} {v : AV} {ps : List (Nat × Nat × Arg)} {l r : List (Nat × AV)} (h : zah a l = some v) (hc : v.cells? = some [v]) (hr : ze9 ps l = some r) : ze9 ((off, 1, .t a) :: ps) l = some ((off, v) :: r) := by
 unfold ze9;rw [show zar (.t a) l = some v from h, hr]
 dsimp only;rw [hc];rfl
theorem zq5 {a b c d e : Nat} {va vb vc vd ve : AV} {l : List (Nat × AV)} (ha : zah a l = some va) (hb : zah b l = some vb) (hc : zah c l = some vc) (hd : zah d l = some vd) (he : zah e l = some ve) (ca : va.cells? = some [va] := by rfl) (cb : vb.cells? = some [vb] := by rfl) (cc : vc.cells? = some [vc] := by rfl) (cd : vd.cells? = some [vd] := by exact zsi _ _ _) (ce : ve.cells? = some [ve] := by exact zsh _ _ _ _) :
  ze9 [(0, 1, (.t a)), (1, 1, (.t b)), (2, 1, (.t c)), (3, 1, (.t d)), (4, 1, (.t e))] l = some [(0, va), (1, vb), (2, vc), (3, vd), (4, ve)] :=
 zea ha ca (zea hb cb (zea hc cc (zea hd cd (zea he ce rfl))))
theorem fill5 {va vb vc vd ve : AV} (ca : va.cells? = some [va]) (cb : vb.cells? = some [vb]) (cc : vc.cells? = some [vc]) (cd : vd.cells? = some [vd]) (ce : ve.cells? = some [ve]) : zbe zf1 [(0, va), (1, vb), (2, vc), (3, vd), (4, ve)] = some [va, vb, vc, vd, ve] := by
 unfold zf1;simp only [zbe, ca, cb, cc, cd, ce];rfl
theorem zvp : ∀ l : List Bool, hasM.hasML (bC l) = false
 | [] => rfl
 | _ :: l => by
  show (false || hasM.hasML (bC l)) = false;rw [zvp l];rfl
def gat (pre : List Bool) (sg : List Sig) (v : List Bool) : Nat -> List Bool
 | 0 => v
 | k + 1 => if (sgA sg k).kd = 0 then (gat pre sg v k).set k (zas (pre ++ gat pre sg v k) (sgA sg k).on) else gat pre sg v k
theorem zeq (pre : List Bool) (sg : List Sig) (v : List Bool) : ∀ k, (gat pre sg v k).length = v.length
 | 0 => rfl
 | k + 1 => by
  rw [gat];split
  ·rw [y24, zeq pre sg v k]
  ·exact zeq pre sg v k
def zmw (c : Ctl) (s : Sta) : List Bool := gat (zfh s.en s.inp) c.sg s.vals c.sg.length
def zbn (c : Ctl) (s : Sta) : Sta := ⟨s.en, s.va, s.inp, zmw c s, s.tms⟩
theorem zld (v : List Bool) (i : Nat) (b : Bool) : (bC v).set i (.bool b) = bC (v.set i b) := by
 unfold bC;rw [List.map_set]
theorem zd0 (v : List Bool) : (bC v).length = v.length := y06 ..
theorem znm {S : AS} {d : Nat} {s : Sta} {wv wt : AV} (hv : ∀ d, S.view (d + 1) wv = vsB s.vals) (ht : ∀ d, S.view (d + 1) wt = vsI s.tms) : S.view (d + 2) (.agg [vsI s.en, vsB s.va, vsB s.inp, wv, wt]) = .agg (cS s) := by
 rw [AS.view];simp only [y1d, List.map_nil, hv, ht];rfl
theorem pre_set {pre v : List Bool} {i : Nat} {b : Bool} : (pre ++ v).set (pre.length + i) b = pre ++ v.set i b := by
 rw [List.set_append_right _ _ (Nat.le_add_right _ _), Nat.add_sub_cancel_left]
set_option maxRecDepth 100000
theorem zqj {l : List Int} {i : Nat} (h : i < l.length) : zA l i = l[i] := by unfold zA; rw [y0j, y0d h]; rfl
theorem bA_at {l : List Bool} {i : Nat} (h : i < l.length) : bA l i = l[i] := by unfold bA; rw [y0j, y0d h]; rfl
theorem zoc {α : Type} {a b : List α} (hl : a.length = b.length) (h : ∀ i (h1 : i < a.length) (h2 : i < b.length), a[i] = b[i]) : a = b := List.ext_getElem hl h
def b20_0 : IC := sR [oM 14 (.bin .lss (.t 13) (.t 12))]
 (.seq (.cond (.t 14) (.skip)
 (.exit 0))
 (.seq (.block 1 (sR [oT 15 13,
  oT 5 15]
 (.seq (.region [oT 16 0,
  oT 17 5,
  oM 18 (.idxs 1 (.t 16) (.t 17)),
  oN 19 18,
  oT 20 1,
  oT 21 5,
  oM 22 (.idxs 1 (.t 20) (.t 21)),
  oN 23 22,
  oM 24 (.eqb true (.t 19) (.t 23))] (some [[], [], [0, 1], [2], [], [], [4, 5], [6], [3, 7]]))
 (.cond (.t 24) (sR [oM 4 (.mov (.c (.bool false)))]
 (.ret))
 (.skip)))))
 (.region [oM 25 (.bin .add (.t 13) (cI 1)),
  oT 13 25] none)))
-- slices.Equal[[]bool,bool]
def ic20 : IC := sR [oM 4 (.mov (.c (.bool false)))]
 (.seq (sR [oT 6 0,
  oM 7 (.len false (.t 6)),
  oT 8 1,
  oM 9 (.len false (.t 8)),
  oM 10 (.bin .neq (.t 7) (.t 9))]
 (.cond (.t 10) (sR [oM 4 (.mov (.c (.bool false)))]
 (.ret))
 (.skip)))
 (.seq (sR [oT 11 0,
  oM 12 (.len false (.t 11)),
  oM 13 (.mov (cI 0))]
 (.block 0 (.loop b20_0)))
 (sR [oM 4 (.mov (.c (.bool true)))]
 (.ret))))
theorem fn20 : env0.fn 20 = some ⟨26, ic20, [.t 4]⟩ := by kernel_rfl
set_option maxHeartbeats 2000000 in
set_option maxRecDepth 100000 in
theorem zms (a b : List Bool) (ha : a.length <= 1000000) : PF Tryz.prog 20 [vsB a, vsB b] (.bool (decide (a = b))) := by
 have hal := zjg a;have hbl := zjg b;refine za6 env0_ok fn20 [(0, vsB a), (1, vsB b)] (y04 rfl) rfl fun w0 N0 => ?_;unfold ic20 vsB;refine zbu ?_;rw [hal, hbl];refine za4 rfl rfl rfl (fun h1 => ?_) fun h1 => ?_
 ·have h1 : ¬ ((a.length : Nat) : Int) = (b.length : Nat) := bne_iff_ne.1 h1;rw [decide_eq_false (show ¬ a = b from fun e => h1 (by rw [e]))]
  refine zbu ?_;exact uE
 have h1 : ((a.length : Nat) : Int) = (b.length : Nat) := bne_eq_false_iff_eq.1 h1;have h1 : a.length = b.length := by omega
 refine zc9 ?_;refine zav (fun mm S => ∃ i, mm = a.length - i /\ i <= a.length /\ (∀ j, j < i -> bA a j = bA b j) /\ S = st 26 [(0, vsB a), (1, vsB b), (12, .int .i64 (a.length : Nat)), (13, .int .i64 (i : Nat))] [] 0 0) a.length
  (zb9 (.cons rfl (.cons rfl (.cons (by rw [<- hal]; rfl) (.cons rfl .nil))))) ⟨0, rfl, y0r _, fun j hj => absurd hj (y1q _), rfl⟩ ?_
 rintro mm S ⟨i, rfl, hi, hv, rfl⟩;unfold b20_0 vsB;refine zcj ?_
 skip
 refine za4 rfl rfl rfl (fun h3 => ?_) fun h3 => ?_
 ·have hlt : i < a.length := by have h4 : ((i : Nat) : Int) < (a.length : Nat) := of_decide_eq_true h3; omega
  have hga := zsn hlt;have hgb := zsn (l := b) (i := i) (by omega);have hbad : ¬ bA a i = bA b i -> decide (a = b) = false := fun h => decide_eq_false fun e => h (by rw [e]);have hnx : bA a i = bA b i -> ∀ j, j < i + 1 -> bA a j = bA b j := fun h0 j hj => by
   rcases y1k.1 hj with hj | rfl
   ·exact hv j hj
   ·exact h0
  have w1 := za7 i (by omega);generalize bA a i = za at *;generalize bA b i = zb at *;cases za <;> cases zb
  all_goals
   refine zbh ?_;first
   | (
     rw [hbad (by decide)];exact uE)
   | (
     rw [w1];exact zad (show a.length - (i + 1) < a.length - i by omega) skp ⟨i + 1, rfl, hlt, hnx rfl, rfl⟩)
 ·have hie : i = a.length := by have h4 : ¬ ((i : Nat) : Int) < (a.length : Nat) := of_decide_eq_false h3; omega
  rw [decide_eq_true (show a = b from zoc h1 fun j g1 g2 => by have := hv j (by omega); rw [bA_at g1, bA_at g2] at this; exact this)]
  refine zb4 ?_;refine zbq ?_;refine zb4 ?_;exact uE
def b81_0 : IC := sR [oM 14 (.bin .lss (.t 13) (.t 12))]
 (.seq (.cond (.t 14) (.skip)
 (.exit 0))
 (.seq (.block 1 (sR [oT 15 13,
  oT 5 15]
 (.seq (.region [oT 16 0,
  oT 17 5,
  oM 18 (.idxs 1 (.t 16) (.t 17)),
  oN 19 18,
  oT 20 1,
  oT 21 5,
  oM 22 (.idxs 1 (.t 20) (.t 21)),
  oN 23 22,
  oM 24 (.bin .neq (.t 19) (.t 23))] (some [[], [], [0, 1], [2], [], [], [4, 5], [6], [3, 7]]))
 (.cond (.t 24) (sR [oM 4 (.mov (.c (.bool false)))]
 (.ret))
 (.skip)))))
 (.region [oM 25 (.bin .add (.t 13) (cI 1)),
  oT 13 25] none)))
-- slices.Equal[[]int,int]
def ic81 : IC := sR [oM 4 (.mov (.c (.bool false)))]
 (.seq (sR [oT 6 0,
  oM 7 (.len false (.t 6)),
  oT 8 1,
  oM 9 (.len false (.t 8)),
  oM 10 (.bin .neq (.t 7) (.t 9))]
 (.cond (.t 10) (sR [oM 4 (.mov (.c (.bool false)))]
 (.ret))
 (.skip)))
 (.seq (sR [oT 11 0,
  oM 12 (.len false (.t 11)),
  oM 13 (.mov (cI 0))]
 (.block 0 (.loop b81_0)))
 (sR [oM 4 (.mov (.c (.bool true)))]
 (.ret))))
theorem fn81 : env0.fn 81 = some ⟨26, ic81, [.t 4]⟩ := by kernel_rfl
set_option maxHeartbeats 2000000 in
set_option maxRecDepth 100000 in
theorem zv5 (a b : List Int) (ha : a.length <= 1000000) : PF Tryz.prog 81 [vsI a, vsI b] (.bool (decide (a = b))) := by
 have hal := zfn a;have hbl := zfn b;refine za6 env0_ok fn81 [(0, vsI a), (1, vsI b)] (y04 rfl) rfl fun w0 N0 => ?_;unfold ic81 vsI;refine zbu ?_;rw [hal, hbl];refine za4 rfl rfl rfl (fun h1 => ?_) fun h1 => ?_
 ·have h1 : ¬ ((a.length : Nat) : Int) = (b.length : Nat) := bne_iff_ne.1 h1;rw [decide_eq_false (show ¬ a = b from fun e => h1 (by rw [e]))]
  refine zbu ?_;exact uE
 have h1 : ((a.length : Nat) : Int) = (b.length : Nat) := bne_eq_false_iff_eq.1 h1;have h1 : a.length = b.length := by omega
 refine zc9 ?_;refine zav (fun mm S => ∃ i, mm = a.length - i /\ i <= a.length /\ (∀ j, j < i -> zA a j = zA b j) /\ S = st 26 [(0, vsI a), (1, vsI b), (12, .int .i64 (a.length : Nat)), (13, .int .i64 (i : Nat))] [] 0 0) a.length
  (zb9 (.cons rfl (.cons rfl (.cons (by rw [<- hal]; rfl) (.cons rfl .nil))))) ⟨0, rfl, y0r _, fun j hj => absurd hj (y1q _), rfl⟩ ?_
 rintro mm S ⟨i, rfl, hi, hv, rfl⟩;unfold b81_0 vsI;refine zcj ?_
 skip
 refine za4 rfl rfl rfl (fun h3 => ?_) fun h3 => ?_
 ·have hlt : i < a.length := by have h4 : ((i : Nat) : Int) < (a.length : Nat) := of_decide_eq_true h3; omega
  have hga := zij hlt;have hgb := zij (l := b) (i := i) (by omega);have hbad : ¬ zA a i = zA b i -> decide (a = b) = false := fun h => decide_eq_false fun e => h (by rw [e]);have hnx : zA a i = zA b i -> ∀ j, j < i + 1 -> zA a j = zA b j := fun h0 j hj => by
   rcases y1k.1 hj with hj | rfl
   ·exact hv j hj
   ·exact h0
  have w1 := za7 i (by omega);generalize zA a i = za at *;generalize zA b i = zb at *;refine zbh ?_;refine za4 rfl rfl rfl (fun h4 => ?_) fun h4 => ?_
  ·have h4 : ¬ za = zb := by simpa using h4
   refine zb7 ?_;rw [hbad h4];exact uE
  ·have h4 : za = zb := by simpa using h4
   refine zb7 ?_;rw [w1];exact zad (show a.length - (i + 1) < a.length - i by omega) skp ⟨i + 1, rfl, hlt, hnx h4, rfl⟩
 ·have hie : i = a.length := by have h4 : ¬ ((i : Nat) : Int) < (a.length : Nat) := of_decide_eq_false h3; omega
  rw [decide_eq_true (show a = b from zoc h1 fun j g1 g2 => by have := hv j (by omega); rw [zqj g1, zqj g2] at this; exact this)]
  refine zb4 ?_;refine zbq ?_;refine zb4 ?_;exact uE
theorem sta_eq (a b : Sta) : (a.en = b.en /\ a.va = b.va /\ a.inp = b.inp /\ a.vals = b.vals /\ a.tms = b.tms) ↔ a = b := by
 constructor
 ·rintro ⟨h1, h2, h3, h4, h5⟩;cases a; cases b;simp at *;exact ⟨h1, h2, h3, h4, h5⟩
 ·rintro rfl;exact ⟨rfl, rfl, rfl, rfl, rfl⟩
def steB (a b : Sta) : Bool := decide (a.en = b.en) && (decide (a.va = b.va) && (decide (a.inp = b.inp) && (decide (a.vals = b.vals) && decide (a.tms = b.tms))))
theorem steB_iff (a b : Sta) : steB a b = true ↔ a = b := by
 rw [<- sta_eq];unfold steB;simp
structure Shs (s : Sta) : Prop where
 e : s.en.length <= 1000
 v : s.va.length <= 1000
 i : s.inp.length <= 1000
 b : s.vals.length <= 1000
 t : s.tms.length <= 1000
-- pneumatic/control.SameStates
def ic56 : IC := sR [oM 2 (.box (.t 0)),
  oM 3 (.box (.t 1)),
  oM 4 (.mov (.c (.bool false)))]
 (sR [oF 5 0 2,
  oN 6 5,
  oF 7 0 3,
  oN 8 7,
  oM 9 (.call (.c (.fn 81 [] [])) [(.t 6), (.t 8)]),
  oT 10 9,
  ⟨(some 11), .faddr 1 (.t 2), some (10, true)⟩,
  ⟨(some 12), .load none (.t 11), some (10, true)⟩,
  ⟨(some 13), .faddr 1 (.t 3), some (10, true)⟩,
  ⟨(some 14), .load none (.t 13), some (10, true)⟩,
  ⟨(some 15), .call (.c (.fn 20 [] [])) [(.t 12), (.t 14)], some (10, true)⟩,
  oM 16 (.pick (.t 10) (.t 15) (.c (.bool false))),
  oT 17 16,
  ⟨(some 18), .faddr 2 (.t 2), some (17, true)⟩,
  ⟨(some 19), .load none (.t 18), some (17, true)⟩,
  ⟨(some 20), .faddr 2 (.t 3), some (17, true)⟩,
  ⟨(some 21), .load none (.t 20), some (17, true)⟩,
  ⟨(some 22), .call (.c (.fn 20 [] [])) [(.t 19), (.t 21)], some (17, true)⟩,
  oM 23 (.pick (.t 17) (.t 22) (.c (.bool false))),
  oT 24 23,
  ⟨(some 25), .faddr 3 (.t 2), some (24, true)⟩,
  ⟨(some 26), .load none (.t 25), some (24, true)⟩,
  ⟨(some 27), .faddr 3 (.t 3), some (24, true)⟩,
  ⟨(some 28), .load none (.t 27), some (24, true)⟩,
  ⟨(some 29), .call (.c (.fn 20 [] [])) [(.t 26), (.t 28)], some (24, true)⟩,
  oM 30 (.pick (.t 24) (.t 29) (.c (.bool false))),
  oT 31 30,
  ⟨(some 32), .faddr 4 (.t 2), some (31, true)⟩,
  ⟨(some 33), .load none (.t 32), some (31, true)⟩,
  ⟨(some 34), .faddr 4 (.t 3), some (31, true)⟩,
  ⟨(some 35), .load none (.t 34), some (31, true)⟩,
  ⟨(some 36), .call (.c (.fn 81 [] [])) [(.t 33), (.t 35)], some (31, true)⟩,
  oM 37 (.pick (.t 31) (.t 36) (.c (.bool false))),
  oT 4 37]
 (.ret))
theorem fn56 : env0.fn 56 = some ⟨38, ic56, [.t 4]⟩ := by kernel_rfl
set_option maxHeartbeats 2000000 in
set_option maxRecDepth 100000 in
theorem same56 (a b : Sta) (h : Shs a) : PF Tryz.prog 56 [.agg (cS a), .agg (cS b)] (.bool (steB a b)) := by
 have p1 := zv5 a.en b.en (by have := h.e; omega)
 have p2 := zms a.va b.va (by have := h.v; omega)
 have p3 := zms a.inp b.inp (by have := h.i; omega)
 have p4 := zms a.vals b.vals (by have := h.b; omega)
 have p5 := zv5 a.tms b.tms (by have := h.t; omega)
 refine za6 env0_ok fn56 [(0, .agg (cS a)), (1, .agg (cS b))] (y04 rfl) rfl fun w0 N0 => ?_;unfold ic56 steB;generalize decide (a.en = b.en) = b1 at *;generalize decide (a.va = b.va) = b2 at *;generalize decide (a.inp = b.inp) = b3 at *;generalize decide (a.vals = b.vals) = b4 at *;generalize decide (a.tms = b.tms) = b5 at *;unfold cS;refine zb7 ?_;cases b1 with
 | false =>
  refine zc9 ?_;exact uE
 | true =>
  refine zb7 ?_;cases b2 with
  | false =>
   refine zc9 ?_;exact uE
  | true =>
   refine zb7 ?_;cases b3 with
   | false =>
    refine zc9 ?_;exact uE
   | true =>
    refine zb7 ?_;cases b4 with
    | false =>
     refine zc9 ?_;exact uE
    | true =>
     refine zb7 ?_;exact uE
set_option maxRecDepth 100000
def ixE (P : Ex -> Bool) : List Ex -> Nat -> Int
 | [], _ => -1
 | z :: l, j => if P z = true then (j : Nat) else ixE P l (j + 1)
theorem zvu (P : Ex -> Bool) : ∀ (l : List Ex) (j : Nat), decide (ixE P l j >= 0) = l.any P
 | [], j => rfl
 | z :: l, j => by
  rw [ixE, List.any_cons];split
  ·rename_i h;rw [h, decide_eq_true (by omega)];rfl
  ·rename_i h;rw [zvu P l (j + 1)];simp [h]
def b113_0 : IC := sR [oM 9 (.bin .lss (.t 8) (.t 7))]
 (.seq (.cond (.t 9) (.skip)
 (.exit 0))
 (.seq (.block 1 (sR [oT 10 8,
  oT 5 10]
 (sR [oT 11 1,
  oT 12 0,
  oT 13 5,
  oM 14 (.idxs 3 (.t 12) (.t 13)),
  oL 15 3 14,
  oM 16 (.call (.t 11) [(.t 15)])]
 (.cond (.t 16) (sR [oT 17 5,
  oT 4 17]
 (.ret))
 (.skip)))))
 (.region [oM 18 (.bin .add (.t 8) (cI 1)),
  oT 8 18] none)))
-- slices.IndexFunc[[]pneumatic/api.Expr,pneumatic/api.Expr]
def ic113 : IC := sR [oM 4 (.mov (cI 0))]
 (.seq (sR [oT 6 0,
  oM 7 (.len false (.t 6)),
  oM 8 (.mov (cI 0))]
 (.block 0 (.loop b113_0)))
 (sR [oM 4 (.mov (cI (-1)))]
 (.ret)))
theorem fn113 : env0.fn 113 = some ⟨19, ic113, [.t 4]⟩ := by kernel_rfl
set_option maxHeartbeats 2000000 in
set_option maxRecDepth 100000 in
theorem index113 {P : Ex -> Bool} {g : FuncId} {v : List Bool} (l : List Ex) (hl : l.length <= 1000000) (hP : ∀ y, y ∈ l -> PF Tryz.prog g [.agg (cX y), .vptr [vsB v]] (.bool (P y))) : PF Tryz.prog 113 [.vs (cXs l), .fn g [] [.vptr [vsB v]]] (.int .i64 (ixE P l 0)) := by
 have hlen : (cXs l).length = l.length := zai l;refine za6 env0_ok fn113 [(0, .vs (cXs l)), (1, .fn g [] [.vptr [vsB v]])] (y04 rfl) rfl fun w0 N0 => ?_;unfold ic113;refine zi2 ?_;refine zav (fun mm S => ∃ i, mm = l.length - i /\ i <= l.length /\ ixE P l 0 = ixE P (l.drop i) i /\ S = st 19 [(0, .vs (cXs l)), (1, .fn g [] [.vptr [vsB v]]), (7, .int .i64 (l.length : Nat)), (8, .int .i64 (i : Nat))] [] 0 0) l.length
  (zb9 (.cons rfl (.cons rfl (.cons (by rw [<- hlen]; rfl) (.cons rfl .nil))))) ⟨0, rfl, y0r _, rfl, rfl⟩ ?_
 rintro mm S ⟨i, rfl, hi, hx, rfl⟩;unfold b113_0;refine zk4 ?_;refine za4 rfl rfl rfl (fun h3 => ?_) fun h3 => ?_
 ·have hlt : i < l.length := y1i.1 (of_decide_eq_true h3);have hge := ze2 hlt;rw [y0q hlt, ixE] at hx;have w1 := za7 i (by omega);have p := hP l[i] (y0x hlt);generalize l[i] = z at *;obtain ⟨zo, zi, za⟩ := z;refine zfk ?_;refine zes rfl rfl rfl p (fun _ => rfl) ?_;cases hp : P (.nd zo zi za) with
  | true =>
   rw [hp, if_pos rfl] at hx;refine ze6 ?_;exact zaa ⟨.inr rfl, _, rfl, by rw [hx]; rfl⟩
  | false =>
   rw [hp, if_neg y2a] at hx;refine zi2 ?_;rw [w1];exact zad (show l.length - (i + 1) < l.length - i by omega) skp ⟨i + 1, rfl, hlt, hx, rfl⟩
 ·have hie : i = l.length := by
   have h4 : ¬ ((i : Nat) : Int) < (l.length : Nat) := of_decide_eq_false h3;omega
  rw [hie, y1l, ixE] at hx;rw [hx];refine zfk ?_;refine zbq ?_;refine zfk ?_;exact uE
-- slices.ContainsFunc[[]pneumatic/api.Expr,pneumatic/api.Expr]
def ic78 : IC := sR [oM 4 (.mov (.c (.bool false)))]
 (sR [oT 5 0,
  oT 6 1,
  oM 7 (.call (.c (.fn 113 [] [])) [(.t 5), (.t 6)]),
  oM 8 (.bin .geq (.t 7) (cI 0)),
  oT 4 8]
 (.ret))
theorem fn78 : env0.fn 78 = some ⟨9, ic78, [.t 4]⟩ := by kernel_rfl
set_option maxRecDepth 100000 in
theorem zlk {P : Ex -> Bool} {g : FuncId} {v : List Bool} (l : List Ex) (hl : l.length <= 1000000) (hP : ∀ y, y ∈ l -> PF Tryz.prog g [.agg (cX y), .vptr [vsB v]] (.bool (P y))) : PF Tryz.prog 78 [.vs (cXs l), .fn g [] [.vptr [vsB v]]] (.bool (l.any P)) := by
 have p := index113 l hl hP;have hany := zvu P l 0;refine za6 env0_ok fn78 [(0, .vs (cXs l)), (1, .fn g [] [.vptr [vsB v]])] (y04 rfl) rfl fun w0 N0 => ?_;unfold ic78;generalize ixE P l 0 = r at *;refine zk5 ?_;rw [<- hany];refine za4 rfl rfl rfl (fun h => ?_) fun h => ?_;all_goals
  have h : decide (r >= 0) = _ := h;rw [h];refine zog ?_;exact uE
-- pneumatic/settle.value$1
def ic79 : IC := sR [oM 2 (.box (.t 0)),
  oM 3 (.mov (.c (.bool false)))]
 (sR [oL 4 3 2,
  oN 5 1,
  oM 6 (.call (.c (.fn 55 [] [])) [(.t 4), (.t 5)]),
  oM 7 (.un .not (.t 6)),
  oT 3 7]
 (.ret))
theorem fn79 : env0.fn 79 = some ⟨8, ic79, [.t 3]⟩ := by kernel_rfl
theorem value79 {v : List Bool} {y : Ex} {b : Bool} (h : PF Tryz.prog 55 [.agg (cX y), vsB v] (.bool b)) : PF Tryz.prog 79 [.agg (cX y), .vptr [vsB v]] (.bool !b) := by
 obtain ⟨yo, yi, ya⟩ := y;refine za6 env0_ok fn79 [(0, .agg (cX (.nd yo yi ya))), (1, .vptr [vsB v])] (y04 rfl) rfl fun w0 N0 => ?_;unfold ic79;refine zk5 ?_;exact uE
-- pneumatic/settle.value$2
def ic80 : IC := sR [oM 2 (.box (.t 0)),
  oM 3 (.mov (.c (.bool false)))]
 (sR [oL 4 3 2,
  oN 5 1,
  oM 6 (.call (.c (.fn 55 [] [])) [(.t 4), (.t 5)]),
  oT 3 6]
 (.ret))
theorem fn80 : env0.fn 80 = some ⟨7, ic80, [.t 3]⟩ := by kernel_rfl
theorem value80 {v : List Bool} {y : Ex} {b : Bool} (h : PF Tryz.prog 55 [.agg (cX y), vsB v] (.bool b)) : PF Tryz.prog 80 [.agg (cX y), .vptr [vsB v]] (.bool b) := by
 obtain ⟨yo, yi, ya⟩ := y;refine za6 env0_ok fn80 [(0, .agg (cX (.nd yo yi ya))), (1, .vptr [vsB v])] (y04 rfl) rfl fun w0 N0 => ?_;unfold ic80;refine zk5 ?_;exact uE
-- pneumatic/settle.value
def ic55 : IC := sR [oM 2 (.box (.t 0)),
  oM 3 (.box (.t 1)),
  oM 4 (.mov (.c (.bool false)))]
 (.seq (sR [oF 5 0 2,
  oN 6 5]
 (.block 0 (sR [oM 8 (.bin .eql (.t 6) (cI 0)),
  oT 7 8]
 (.cond (.t 7) (sR [oF 9 1 2,
  oN 10 9,
  oM 11 (.bin .eql (.t 10) (cI 1)),
  oT 4 11]
 (.ret))
 (sR [oM 13 (.bin .eql (.t 6) (cI 1)),
  oT 12 13]
 (.cond (.t 12) (sR [oN 14 3,
  oF 15 1 2,
  oN 16 15,
  oM 17 (.idxs 1 (.t 14) (.t 16)),
  oN 18 17,
  oT 4 18]
 (.ret))
 (sR [oM 20 (.bin .eql (.t 6) (cI 2)),
  oT 19 20]
 (.cond (.t 19) (.seq (.region [oF 21 2 2,
  oN 22 21,
  oM 23 (.idxs 3 (.t 22) (cI 0)),
  oL 24 3 23,
  oN 25 3,
  oM 26 (.call (.c (.fn 55 [] [])) [(.t 24), (.t 25)]),
  oM 27 (.un .not (.t 26)),
  oT 4 27] (some [[], [0], [1], [2], [], [3, 4], [5], [6, 5, 0, 1, 2, 3, 4, 5, 6]]))
 (.ret))
 (sR [oM 29 (.bin .eql (.t 6) (cI 3)),
  oT 28 29]
 (.cond (.t 28) (sR [oF 30 2 2,
  oN 31 30,
  oM 32 (.mkfn 79 [] [(.t 3)]),
  oM 33 (.call (.c (.fn 78 [] [])) [(.t 31), (.t 32)]),
  oM 34 (.un .not (.t 33)),
  oT 4 34]
 (.ret))
 (.skip)))))))))))
 (sR [oF 35 2 2,
  oN 36 35,
  oM 37 (.mkfn 80 [] [(.t 3)]),
  oM 38 (.call (.c (.fn 78 [] [])) [(.t 36), (.t 37)]),
  oT 4 38]
 (.ret)))
theorem fn55 : env0.fn 55 = some ⟨39, ic55, [.t 4]⟩ := by kernel_rfl
set_option maxHeartbeats 4000000 in
set_option maxRecDepth 100000 in
theorem zqi (v : List Bool) : ∀ (q : Nat) (x : Ex), SizeOf.sizeOf x <= q -> nds v.length x = 0 -> PF Tryz.prog 55 [.agg (cX x), vsB v] (.bool (zas v x)) := by
 intro q
 induction q with
 | zero => intro x hq; cases x; simp at hq
 | succ q ih =>
 intro x hq hs;obtain ⟨op, ix, args⟩ := x;obtain ⟨hn, hch⟩ := zj5 hs;obtain ⟨o0, o5, kl, km, i0, im⟩ := zj6 hn;have hlen : args.length <= 256 := by
  unfold zoq at km
  (repeat' split at km) <;> omega
 have hev : ∀ y ∈ args, PF Tryz.prog 55 [.agg (cX y), vsB v] (.bool (zas v y)) := fun y hy => ih y (by have := zgm (op := op) (ix := ix) hy; omega) (hch y hy)
 have hop : op = 0 \/ op = 1 \/ op = 2 \/ op = 3 \/ op = 4 := by omega
 have hd : zas v (.nd op ix args) = if op = 0 then ix == 1 else if op = 1 then v.getD ix.toNat false else if op = 2 then !(ze7 v args).headD false else if op = 3 then (ze7 v args).all id else (ze7 v args).any id := by rw [zas]
 rw [hd];refine za6 env0_ok fn55 [(0, .agg (cX (.nd op ix args))), (1, vsB v)] (y04 rfl) rfl fun w0 N0 => ?_;unfold ic55;rcases hop with rfl | rfl | rfl | rfl | rfl
 ·rw [if_pos rfl];refine ze6 ?_;refine zb3 (op := .eql) (v := .bool (ix == 1)) rfl rfl rfl ?_;refine ze6 ?_;exact uE
 ·rw [if_neg (by decide), if_pos rfl];have hi : ix.toNat < v.length := by
   simp [zt4] at im;omega
  have hge := vs_get v _ hi;refine ze6 ?_;exact uE
 ·rw [if_neg (by decide), if_neg (by decide), if_pos rfl];have h1 : args.length = 1 := by simp [zok, zoq] at kl km; omega
  obtain ⟨y, rfl⟩ := List.length_eq_one_iff.1 h1;have p := hev y (y0o.2 rfl);rw [ze7, ze7];generalize zas v y = b at *;obtain ⟨yo, yi, ya⟩ := y;refine ze6 ?_;refine zc2 env0_ok _ (hL1 p) (fun g => Nat.beq g 55) rfl rfl rfl ?_;refine zk4 ?_;refine zcn rfl rfl (y2j 0) rfl rfl ?_;refine ze6 ?_;exact uE
 ·rw [if_neg (by decide), if_neg (by decide), if_neg (by decide), if_pos rfl, zhb];have p := zlk (P := fun y => !zas v y) (g := 79) args (by omega) fun y hy => value79 (hev y hy);have heq : (args.map (zas v)).all id = !args.any (fun y => !zas v y) := by
   rw [List.all_map, List.not_any_eq_all_not];simp
  rw [heq];generalize args.any (fun y => !zas v y) = b at *;refine ze6 ?_;refine zal rfl rfl p (fun _ => rfl) ?_;refine ze6 ?_;exact uE
 ·rw [if_neg (by decide), if_neg (by decide), if_neg (by decide), if_neg (by decide), zhb];have p := zlk (P := fun y => zas v y) (g := 80) args (by omega) fun y hy => value80 (hev y hy);have heq : (args.map (zas v)).any id = args.any (fun y => zas v y) := by
   rw [List.any_map];rfl
  rw [heq];generalize args.any (fun y => zas v y) = b at *;refine ze6 ?_;refine zal rfl rfl p (fun _ => rfl) ?_;refine zog ?_;exact uE
def cCh (v : Bool) (t : Int) (b : Bool) : List AV := [.bool v, .int .i64 t, .bool b]
def rul (kd : Int) (v : Bool) (t : Int) (on off : Bool) : Bool × Int × Bool :=
 if kd = 1 then (if on = off then v else on, t, on && off)
 else if kd = 2 then (if on = true then (v, if t = 0 then 1 else t, false) else (false, 0, false))
 else (v, t, false)
def rulA (kd : Int) (v : Bool) (t : Int) (on off : Bool) : AV := .agg (cCh (rul kd v t on off).1 (rul kd v t on off).2.1 (rul kd v t on off).2.2)
-- pneumatic/settle.rules
def ic54 : IC := sR [oM 0 (.alloc [.nilf, .nilf, .nilf])]
 (sR [oM 1 (.build [.nilf, .nilf, .nilf] [(0, 1, (.c (.fn 75 [] []))), (1, 1, (.c (.fn 76 [] []))), (2, 1, (.c (.fn 77 [] [])))]),
  ⟨none, .store 3 (.t 0) (.t 1), none⟩]
 (.ret))
theorem fn54 : env0.fn 54 = some ⟨2, ic54, [.cell 0 (some 3)]⟩ := by kernel_rfl
theorem rules54 : PF Tryz.prog 54 [] (.agg [.fn 75 [] [], .fn 76 [] [], .fn 77 [] []]) := by
 refine za6 env0_ok fn54 [] (y04 rfl) rfl fun w0 N0 => ?_;unfold ic54;refine ze6 ?_;exact uE
-- pneumatic/settle.rules$1
def ic75 : IC := sR [oM 3 (.box (.t 0)),
  oM 6 (.alloc [.bool false, .int .i64 0, .bool false])]
 (sR [oL 7 3 3,
  ⟨none, .store 3 (.t 6) (.t 7), none⟩]
 (.ret))
theorem fn75 : env0.fn 75 = some ⟨8, ic75, [.cell 6 (some 3)]⟩ := by kernel_rfl
theorem rule75 (v : Bool) (t : Int) (on off : Bool) : PF Tryz.prog 75 [.agg (cCh v t false), .bool on, .bool off] (rulA 0 v t on off) := by
 refine za6 env0_ok fn75 [(0, .agg (cCh v t false)), (1, .bool on), (2, .bool off)] (y04 rfl) rfl fun w0 N0 => ?_;unfold ic75 cCh;refine zfk ?_;exact uE
-- pneumatic/settle.rules$2
def ic76 : IC := sR [oM 3 (.box (.t 0)),
  oM 6 (.alloc [.bool false, .int .i64 0, .bool false])]
 (.seq (sR [oT 7 1,
  oT 8 2,
  oM 9 (.eqb true (.t 7) (.t 8))]
 (.cond (.t 9) (.region [oT 10 1,
  oF 11 0 3,
  ⟨none, .store 1 (.t 11) (.t 10), none⟩] none)
 (.skip)))
 (sR [oT 12 1,
  oT 13 12,
  ⟨(some 14), .mov (.t 2), some (13, true)⟩,
  oM 15 (.pick (.t 13) (.t 14) (.c (.bool false))),
  oF 16 2 3,
  ⟨none, .store 1 (.t 16) (.t 15), none⟩]
 (sR [oL 17 3 3,
  ⟨none, .store 3 (.t 6) (.t 17), none⟩]
 (.ret))))
theorem fn76 : env0.fn 76 = some ⟨18, ic76, [.cell 6 (some 3)]⟩ := by kernel_rfl
theorem rule76 (v : Bool) (t : Int) (on off : Bool) : PF Tryz.prog 76 [.agg (cCh v t false), .bool on, .bool off] (rulA 1 v t on off) := by
 refine za6 env0_ok fn76 [(0, .agg (cCh v t false)), (1, .bool on), (2, .bool off)] (y04 rfl) rfl fun w0 N0 => ?_;unfold ic76 cCh;cases on <;> cases off
 all_goals
  refine ze6 ?_;exact uE
-- pneumatic/settle.rules$3
def ic77 : IC := sR [oM 3 (.box (.t 0)),
  oM 6 (.alloc [.bool false, .int .i64 0, .bool false])]
 (.seq (.block 0 (sR [oT 8 1,
  oM 9 (.un .not (.t 8)),
  oT 7 9]
 (.cond (.t 7) (sR [oM 10 (.build [.bool false, .int .i64 0, .bool false] []),
  ⟨none, .store 3 (.t 6) (.t 10), none⟩]
 (.ret))
 (sR [oF 12 1 3,
  oN 13 12,
  oM 14 (.bin .eql (.t 13) (cI 0)),
  oT 11 14]
 (.cond (.t 11) (.region [oF 15 1 3,
  ⟨none, .store 1 (.t 15) (cI 1), none⟩] none)
 (.skip))))))
 (sR [oL 16 3 3,
  ⟨none, .store 3 (.t 6) (.t 16), none⟩]
 (.ret)))
theorem fn77 : env0.fn 77 = some ⟨17, ic77, [.cell 6 (some 3)]⟩ := by kernel_rfl
theorem rule77 (v : Bool) (t : Int) (on off : Bool) : PF Tryz.prog 77 [.agg (cCh v t false), .bool on, .bool off] (rulA 2 v t on off) := by
 refine za6 env0_ok fn77 [(0, .agg (cCh v t false)), (1, .bool on), (2, .bool off)] (y04 rfl) rfl fun w0 N0 => ?_;unfold ic77 cCh;cases on with
 | false =>
  refine ze6 ?_;exact uE
 | true =>
  refine zk5 ?_;refine za4 rfl rfl rfl (fun h => ?_) fun h => ?_
  ·have h : t = 0 := by simpa using h
   subst h;refine zfk ?_;exact uE
  ·have h : ¬ t = 0 := by simpa using h
   refine zfk ?_;refine zaa ⟨.inr rfl, _, rfl, ?_⟩;unfold rulA rul cCh;rw [if_neg (by decide), if_pos rfl, if_pos rfl, if_neg h];rfl
set_option maxRecDepth 100000
def cM (c : Ctl) (s : Sta) : List AV := cC c ++ (cS s ++ [.int .i64 (fsC c : Nat)])
theorem view_vv {S : AS} {d id sp : Nat} {cap : Option Nat} {a b c : List Bool} (hl : Am.look id S.heap = some (sp, .cells [vsB a, vsB b, vsB c])) : S.view (d + 2) (.ms id sp 1 0 3 cap) = vvb [a, b, c] := by
 have e : S.elems 1 (.ms id sp 1 0 3 cap) = some [[vsB a], [vsB b], [vsB c]] := by
  simp only [AS.elems, hl];rw [if_pos ⟨trivial, trivial, y08 _⟩];rfl
 rw [AS.view];simp only [e];rfl
def b53_0 : IC := sR [oM 13 (.bin .lss (.t 12) (.t 11))]
 (.seq (.cond (.t 13) (.skip)
 (.exit 0))
 (.seq (.block 1 (sR [oM 14 (.idxs 1 (.t 10) (.t 12)),
  oN 15 14,
  oT 5 15]
 (.region [oT 16 3,
  oT 17 5,
  oM 18 (.bin .eql (.t 17) (cI 0)),
  oT 19 5,
  oM 20 (.bin .eql (.t 19) (cI 2)),
  oM 21 (.bslice 1 2 [.bool false, .bool false] [(0, 1, (.t 18)), (1, 1, (.t 20))]),
  oM 22 (.append 1 1 [.bool false] (.t 16) (.t 21)),
  oT 3 22] none)))
 (.region [oM 23 (.bin .add (.t 12) (cI 1)),
  oT 12 23] none)))
-- (*pneumatic/settle.machine).lines
def ic53 : IC := sR [oM 2 (.mov (.c (.nils)))]
 (sR [oM 3 (.mov (.c (.nils)))]
 (.seq (sR [oT 6 0,
  oM 7 (.nilchk (.t 6)),
  oF 8 5 7,
  oF 9 0 8,
  oN 10 9,
  oM 11 (.len false (.t 10)),
  oM 12 (.mov (cI 0))]
 (.block 0 (.loop b53_0)))
 (.seq (.region [oT 24 3,
  oT 25 0,
  oM 26 (.nilchk (.t 25)),
  oF 27 5 26,
  oF 28 2 27,
  oN 29 28,
  oT 30 0,
  oM 31 (.nilchk (.t 30)),
  oF 32 5 31,
  oF 33 3 32,
  oN 34 33,
  oM 35 (.bslice 1 3 [.nils, .nils, .nils] [(0, 1, (.t 24)), (1, 1, (.t 29)), (2, 1, (.t 34))]),
  oM 36 (.call (.c (.fn 74 [] [])) [(.t 35)]),
  oT 2 36] (some [[], [], [1], [2], [3], [4], [], [6], [7], [8], [9], [0, 5, 10], [11], [12, 12, 0, 1, 2, 3, 4, 5, 6, 7, 8, 9, 10, 11, 12]]))
 (.ret))))
theorem fn53 : env0.fn 53 = some ⟨37, ic53, [.t 2]⟩ := by kernel_rfl
set_option maxHeartbeats 4000000 in
set_option maxRecDepth 100000 in
theorem zvx {c : Ctl} {s : Sta} (hs : Sms s) (h1 : 1 <= s.en.length) : PFo Tryz.prog 53 [.vptr (cM c s)] 1 (zfo s).length none (bC (zfo s)) := by
 have he40 := hs.e;have hi200 := hs.i;have hb200 := hs.b;have he := zfn s.en;have hsl0 := znh s.en;have hfl : [swL s.en, s.inp, s.vals].flatten = zfo s := by
  unfold zfo zfh swL;simp
 have p74 := concat74 [swL s.en, s.inp, s.vals] (by show 3 <= 1000; decide) (by show 1 <= (swL s.en).length + (s.inp.length + (s.vals.length + 0)); omega) (by show (swL s.en).length + (s.inp.length + (s.vals.length + 0)) <= 100000; omega)
 rw [hfl] at p74;refine zev (zft _) fun w0 N0 => ?_;refine zbl env0_ok fn53 [(0, .vptr (cM c s))] (y04 rfl) rfl ?_;unfold ic53;unfold cM cC cS vsI;refine ggg1 ?_;refine zav (fun mm S => ∃ (i : Nat) (w : AV) (hp : List (Nat × Nat × AObj)) (nx ck : Nat), mm = s.en.length - i /\ i <= s.en.length /\ Gq 1 0 ((swL (s.en.take i)).map fun b => [.bool b]) w hp nx /\ S = st 37 [(0, .vptr (cM c s)), (3, w), (10, vsI s.en), (11, .int .i64 (s.en.length : Nat)), (12, .int .i64 (i : Nat))] hp nx ck) s.en.length
  (zb9 (.cons rfl (.cons rfl (.cons rfl (.cons (by rw [<- he]; rfl) (.cons rfl .nil)))))) ⟨0, .nils, _, _, _, rfl, y0r _, .inl ⟨rfl, rfl⟩, rfl⟩ ?_
 rintro mm S ⟨i, w, hp, nx, ck, rfl, hi, hG, rfl⟩;unfold b53_0 vsI;refine ggg0 ?_;refine za4 rfl rfl rfl (fun h3 => ?_) fun h3 => ?_
 ·have hlt : i < s.en.length := y1i.1 (of_decide_eq_true h3);have hge := zij hlt;have hsw := zsc hlt;have hsl := znh (s.en.take i);rw [List.length_take] at hsl;have w1 := za7 i (by omega);generalize zA s.en i = e at *;refine ggg2 ?_;refine zb3 (op := .eql) (v := .bool (e == 0)) rfl rfl rfl ?_;repeat (first | refine zan rfl ?_)
  refine zb3 (op := .eql) (v := .bool (e == 2)) rfl rfl rfl ?_;repeat (first | refine zcw rfl rfl ?_)
  refine zt5 [[.bool (e == 0)], [.bool (e == 2)]] (hG.fresh ck _) (zlu _) rfl rfl (zf5 (xs := [[.bool (e == 0)], [.bool (e == 2)]]) (ys := []) za3 rfl fun x hx => by rcases y0f.1 hx with rfl | hx; rfl; obtain rfl := y0o.1 hx; rfl) rfl (by decide) (y0r _) (by rw [y06]; show (swL (s.en.take i)).length + 2 <= 1000000; omega) ?_
  intro w' hp' nx' ck' hG' hnx' hk';refine ggg2 ?_;rw [w1];refine zad (show s.en.length - (i + 1) < s.en.length - i by omega) skp ⟨i + 1, w', hp', nx', ck', rfl, hlt, ?_, rfl⟩
  rw [hsw, y16]; exact hG'
 have hie : i = s.en.length := by
  have h4 : ¬ ((i : Nat) : Int) < (s.en.length : Nat) := of_decide_eq_false h3;omega
 rw [hie, y1t] at hG;refine ggg3 ?_;refine zbq ?_;refine ggg3 ?_;rcases hG with ⟨e, _⟩ | ⟨id, sp, rfl, hl, _, hid, _⟩
 ·have := congrArg List.length e;rw [y06] at this;rw [hsl0] at this;exact absurd (show 2 * s.en.length = 0 from this) (by omega)
 rw [zbi, y06] at *;refine znr id sp (l' := [(0, .vptr (cM c s)), (3, vsB (swL s.en))]) hl (zvp _) (.cons rfl .same (.cons rfl (.fms (xs := (swL s.en).map fun b => [.bool b]) (y06 ..) (zlu _) ⟨[], by rw [y26, y0s, zbi]⟩) .nil)) ?_;generalize zbx id hp = hp2;refine z_cut env0_ok 12 [] (fun _ hx => absurd hx y0c) (fun _ => false) (fun _ => true) (fun _ => false) (fun i _ h => Bool.noConfusion h) rfl rfl rfl rfl ?_;show Om _ _ _ _ _ [_, _, _, _, _, _, _, _, _, _, _, _] _ _ _;unfold cM cC cS;refine ggg3 ?_;refine zaa ⟨rfl, fun rd => ?_⟩;refine AnyF.one 12 rfl (zqm rfl rfl rfl (congrArg (fun x => [x]) (view_vv (S := st _ _ _ _ _) (d := VD - 2) za3)) p74 (zft _) ?_);refine AnyF.one 13 rfl (za9 rfl rfl (zha rfl) ?_);refine AnyF.fin rfl (Um.ok ?_);refine ggg4 ?_;exact zaa ⟨.inr rfl, _, rfl, _, _, rfl, za3⟩
-- pneumatic/settle.copied
def ic39 : IC := sR [oM 1 (.box (.t 0)),
  oM 2 (.alloc [.nils, .nils, .nils, .nils, .nils])]
 (.seq (.region [oF 3 0 1,
  oN 4 3,
  oM 5 (.call (.c (.fn 58 [] [])) [(.t 4)]),
  oF 6 1 1,
  oN 7 6,
  oM 8 (.call (.c (.fn 59 [] [])) [(.t 7)]),
  oF 9 2 1,
  oN 10 9,
  oM 11 (.call (.c (.fn 59 [] [])) [(.t 10)]),
  oF 12 3 1,
  oN 13 12,
  oM 14 (.call (.c (.fn 59 [] [])) [(.t 13)]),
  oF 15 4 1,
  oN 16 15,
  oM 17 (.call (.c (.fn 58 [] [])) [(.t 16)]),
  oM 18 (.build [.nils, .nils, .nils, .nils, .nils] [(0, 1, (.t 5)), (1, 1, (.t 8)), (2, 1, (.t 11)), (3, 1, (.t 14)), (4, 1, (.t 17))]),
  ⟨none, .store 5 (.t 2) (.t 18), none⟩] (some [[], [0], [1], [], [3], [4, 2], [], [6], [7, 5], [], [9], [10, 8], [], [12], [13, 11], [2, 5, 8, 11, 14], [15, 14, 0, 1, 2, 3, 4, 5, 6, 7, 8, 9, 10, 11, 12, 13, 14, 15]]))
 (.ret))
theorem fn39 : env0.fn 39 = some ⟨19, ic39, [.cell 2 (some 5)]⟩ := by kernel_rfl
set_option maxRecDepth 100000
structure Nms where
 m : Nat
 sm : Nat
 iv : Nat
 sv : Nat
 it : Nat
 tt : Nat
def mcC (c : Ctl) (s : Sta) (q : Nms) : List AV := cC c ++ [vsI s.en, vsB s.va, vsB s.inp, wvA s.vals q.iv q.sv, wtA true s.tms q.it q.tt, .int .i64 (fsC c : Nat)]
structure Mc (c : Ctl) (q : Nms) (s : Sta) (H : HS) : Prop where
 hm : Am.look q.m H.heap = some (q.sm, .cells (mcC c s q))
 lm : q.m < H.next
 hv : s.vals ≠ [] -> Am.look q.iv H.heap = some (q.sv, .cells (bC s.vals)) /\ q.iv < H.next /\ q.iv ≠ q.m
 ht : s.tms ≠ [] -> Am.look q.it H.heap = some (q.tt, .cells (zC s.tms)) /\ q.it < H.next /\ q.it ≠ q.m
 ne : s.vals ≠ [] -> s.tms ≠ [] -> q.iv ≠ q.it
theorem zl2 {v : List Bool} {n s : Nat} (h : v ≠ []) : wvA v n s = .ms n s 1 0 v.length none := if_neg h
theorem zih {t : List Int} {n s : Nat} (h : t ≠ []) : wtA true t n s = .ms n s 1 0 t.length none := if_pos ⟨rfl, h⟩
theorem zsj {v w : List Bool} {n s : Nat} (h : v.length = w.length) : wvA v n s = wvA w n s := by
 unfold wvA;by_cases e : v = []
 ·have e2 : w = [] := y0k.1 (by rw [<- h, e]; rfl);rw [if_pos e, if_pos e2]
 ·have e2 : ¬ w = [] := fun e2 => e (y0k.1 (by rw [h, e2]; rfl));rw [if_neg e, if_neg e2, h]
theorem wtA_same {v w : List Int} {n s : Nat} (h : v.length = w.length) (e : v ≠ []) : wtA true v n s = wtA true w n s := by
 have e2 : w ≠ [] := fun e2 => e (y0k.1 (by rw [h, e2]; rfl));rw [zih e, zih e2, h]
theorem zno {S : AS} {v : List Bool} {n s : Nat} (h : v ≠ [] -> Am.look n S.heap = some (s, .cells (bC v))) (d : Nat) : S.view (d + 1) (wvA v n s) = vsB v := by
 by_cases e : v = []
 ·unfold wvA;rw [if_pos e, e];rfl
 ·rw [zl2 e];exact zd5 v rfl (h e)
theorem znn {S : AS} {v : List Int} {n s : Nat} (h : v ≠ [] -> Am.look n S.heap = some (s, .cells (zC v))) (d : Nat) : S.view (d + 1) (wtA true v n s) = vsI v := by
 by_cases e : v = []
 ·unfold wtA;rw [if_neg (fun h => h.2 e), e];rfl
 ·rw [zih e];exact zds v rfl (h e)
theorem zxe {c : Ctl} {q : Nms} {s : Sta} {n nx ck : Nat} {l : List (Nat × AV)} {hp : List (Nat × Nat × AObj)} (h : Mc c q s ⟨hp, nx, ck⟩) : (st n l hp nx ck).view VD (.mptr q.m q.sm 0) = .vptr (cM c s) := by
 rw [show VD = (VD - 1) + 1 from rfl, view_p h.hm h.lm]
 unfold mcC cM;rw [y16];simp only [y1d, List.map_nil];rw [show VD - 1 = (VD - 2) + 1 from rfl, zno (fun e => (h.hv e).1), znn (fun e => (h.ht e).1)]
 rfl
theorem Mc.keep {c : Ctl} {q : Nms} {s : Sta} {H H' : HS} (h : Mc c q s H) (hn : H.next <= H'.next) (hk : ∀ j, j < H.next -> Am.look j H'.heap = Am.look j H.heap) : Mc c q s H' :=
 ⟨(hk _ h.lm).trans h.hm, y09 h.lm hn, fun e => ⟨(hk _ (h.hv e).2.1).trans (h.hv e).1, y09 (h.hv e).2.1 hn, (h.hv e).2.2⟩, fun e => ⟨(hk _ (h.ht e).2.1).trans (h.ht e).1, y09 (h.ht e).2.1 hn, (h.ht e).2.2⟩, h.ne⟩
theorem Mc.new {c : Ctl} {q : Nms} {s : Sta} {hp : List (Nat × Nat × AObj)} {nx ck : Nat} (h : Mc c q s ⟨hp, nx, ck⟩) (o : Nat × AObj) (ck' : Nat) : Mc c q s ⟨(nx, o) :: hp, nx + 1, ck'⟩ :=
 h.keep (y0y _) fun _ hj => za5 hj
theorem Mc.putV {c : Ctl} {q : Nms} {s : Sta} {hp : List (Nat × Nat × AObj)} {nx ck : Nat} (h : Mc c q s ⟨hp, nx, ck⟩) {w : List Bool} (hl : w.length = s.vals.length) (he : s.vals ≠ []) : Mc c q ⟨s.en, s.va, s.inp, w, s.tms⟩ ⟨zap q.iv (q.sv, .cells (bC w)) hp, nx, ck⟩ := by
 obtain ⟨a1, a2, a3⟩ := h.hv he;refine ⟨?_, h.lm, fun _ => ⟨by rw [za0, if_pos rfl], a2, a3⟩, fun e => ?_, fun _ e => h.ne he e⟩
 ·rw [za0, if_neg a3];have : mcC c ⟨s.en, s.va, s.inp, w, s.tms⟩ q = mcC c s q := by
   unfold mcC;rw [zsj hl]
  rw [this];exact h.hm
 ·obtain ⟨b1, b2, b3⟩ := h.ht e;exact ⟨by rw [za0, if_neg (h.ne he e)]; exact b1, b2, b3⟩
theorem Mc.off {c : Ctl} {q : Nms} {s : Sta} {hp : List (Nat × Nat × AObj)} {nx ck j : Nat} {o : Nat × AObj} (h : Mc c q s ⟨hp, nx, ck⟩) (h1 : q.m ≠ j) (h2 : s.vals ≠ [] -> q.iv ≠ j) (h3 : s.tms ≠ [] -> q.it ≠ j) : Mc c q s ⟨zap j o hp, nx, ck⟩ :=
 ⟨by rw [za0, if_neg (fun e => h1 e.symm)]; exact h.hm, h.lm, fun e => ⟨by rw [za0, if_neg (fun e2 => h2 e e2.symm)]; exact (h.hv e).1, (h.hv e).2⟩, fun e => ⟨by rw [za0, if_neg (fun e2 => h3 e e2.symm)]; exact (h.ht e).1, (h.ht e).2⟩, h.ne⟩
def b52_0 : IC := sR [oM 15 (.bin .lss (.t 14) (.t 13))]
 (.seq (.cond (.t 15) (.skip)
 (.exit 0))
 (.seq (.block 1 (sR [oT 16 14,
  oM 17 (.idxs 10 (.t 12) (.t 14)),
  oL 18 10 17,
  oM 4 (.alloc [.str [], .int .i64 0, .int .i64 0, .int .i64 0, .nils, .int .i64 0, .int .i64 0, .nils, .int .i64 0, .bool false]),
  oT 3 16,
  ⟨none, .store 10 (.t 4) (.t 18), none⟩]
 (sR [oF 19 1 4,
  oN 20 19,
  oM 21 (.bin .eql (.t 20) (cI 0))]
 (.cond (.t 21) (sR [oF 22 2 4,
  oL 23 3 22,
  oT 24 2,
  oM 25 (.call (.c (.fn 55 [] [])) [(.t 23), (.t 24)]),
  oT 5 25]
 (.region [oT 26 0,
  oM 27 (.nilchk (.t 26)),
  oF 28 5 27,
  oF 29 3 28,
  oN 30 29,
  oT 31 3,
  oT 32 2,
  oT 33 0,
  oM 34 (.nilchk (.t 33)),
  oF 35 10 34,
  oN 36 35,
  oT 37 3,
  oM 38 (.bin .add (.t 36) (.t 37)),
  oT 39 5,
  oT 40 5,
  oM 41 (.idxs 1 (.t 30) (.t 31)),
  ⟨none, .store 1 (.t 41) (.t 39), none⟩,
  oM 42 (.idxs 1 (.t 32) (.t 38)),
  ⟨none, .store 1 (.t 42) (.t 40), none⟩] (some [[], [0], [1], [2], [3], [], [], [], [7], [8], [9], [], [10, 11], [], [], [4, 5, 0, 1, 2, 3, 4, 5, 10, 13], [15, 13, 0, 1, 2, 3, 4, 5, 10, 13], [6, 12, 0, 1, 2, 3, 4, 5, 6, 7, 8, 9, 10, 11, 12, 13, 14, 15, 16], [17, 14, 16, 0, 1, 2, 3, 4, 5, 6, 7, 8, 9, 10, 11, 12, 13, 14, 15, 16]])))
 (.skip)))))
 (.region [oM 43 (.bin .add (.t 14) (cI 1)),
  oT 14 43] none)))
-- (*pneumatic/settle.machine).gates
def ic52 : IC := sR [oT 6 0,
  oM 7 (.call (.c (.fn 53 [] [])) [(.t 6)]),
  oT 2 7]
 (sR [oT 8 0,
  oM 9 (.nilchk (.t 8)),
  oF 10 0 9,
  oF 11 2 10,
  oN 12 11,
  oM 13 (.len false (.t 12)),
  oM 14 (.mov (cI 0))]
 (.block 0 (.loop b52_0)))
theorem fn52 : env0.fn 52 = some ⟨44, ic52, []⟩ := by kernel_rfl
set_option maxHeartbeats 8000000 in
set_option maxRecDepth 100000 in
theorem gates52 {w0 : World} {N0 : Nat} {c : Ctl} {s : Sta} {q : Nms} (h : Ct c) (hs : Ss c s) (H : HS) (hM : Mc c q s H) : FT Tryz.prog w0 N0 52 [.mptr q.m q.sm 0] H (fun _ H' => Mc c q (zbn c s) H' /\ Keep (fun j => j = q.iv) H H') := by
 have hg := zel c.sg;obtain ⟨k1, k2, k3, k4, k5⟩ := hs.sh;have a1 := h.a1;have a6 := h.a6;have s16 := h.s16;have i16 := h.i16;have hpl := zgt s.en s.inp;have hfs : fsC c = (zfh s.en s.inp).length := by rw [hpl]; unfold fsC; omega
 have hfs100 : fsC c <= 100 := by unfold fsC; omega
 have p53 := zvx (c := c) hs.toSms (by omega);have hal : zfo s = zfh s.en s.inp ++ s.vals := rfl;have hgv : (zbn c s) = ⟨s.en, s.va, s.inp, gat (zfh s.en s.inp) c.sg s.vals c.sg.length, s.tms⟩ := rfl;rw [hgv];rw [hal] at p53;generalize zfh s.en s.inp = pre at *;have hall : (pre ++ s.vals).length = lnC c := by rw [y0l, <- hfs, k4]; rfl
 rw [hall] at p53;obtain ⟨hp0, nx0, ck0⟩ := H;refine zbl env0_ok fn52 [(0, .mptr q.m q.sm 0)] (y04 rfl) rfl ?_;unfold ic52;refine zcj ?_;refine o_own rfl (congrArg (fun x => [x]) (zxe hM)) p53 (zft _) ?_;have hM1 := hM.new (ck0, .cells (bC (pre ++ s.vals))) (ck0 + 1);refine zbh ?_;refine zab rfl hM1.hm hM1.lm rfl ?_;refine zc9 ?_;unfold vsG;refine zav (fun mm S => ∃ (i : Nat) (hp : List (Nat × Nat × AObj)) (nx ck : Nat), mm = c.sg.length - i /\ i <= c.sg.length /\ Mc c q ⟨s.en, s.va, s.inp, gat pre c.sg s.vals i, s.tms⟩ ⟨hp, nx, ck⟩ /\ Am.look nx0 hp = some (ck0, .cells (bC (pre ++ gat pre c.sg s.vals i))) /\ nx0 < nx /\ Keep (fun j => j = q.iv) ⟨hp0, nx0, ck0⟩ ⟨hp, nx, ck⟩ /\ S = st 44 [(0, .mptr q.m q.sm 0), (2, .ms nx0 ck0 1 0 (lnC c) none), (12, vsG c.sg), (13, .int .i64 (c.sg.length : Nat)), (14, .int .i64 (i : Nat))] hp nx ck) c.sg.length
  (zb9 (.cons rfl (.cons rfl (.cons rfl (.cons (by rw [<- hg]; rfl) (.cons rfl .nil)))))) ⟨0, _, _, _, rfl, y0r _, hM1, za3, y07 _, Keep.new _ ⟨hp0, nx0, ck0⟩ _, rfl⟩ ?_
 rintro mm S ⟨i, hp, nx, ck, rfl, hi, hMi, hli, hnx, hKi, rfl⟩;unfold b52_0 vsG;refine zcj ?_;refine za4 rfl rfl rfl (fun h3 => ?_) fun h3 => ?_
 ·have hlt : i < c.sg.length := y1i.1 (of_decide_eq_true h3);have hge := zdi hlt;have hon := zhf (h.on i hlt);have hgs : gat pre c.sg s.vals (i + 1) = if (sgA c.sg i).kd = 0 then (gat pre c.sg s.vals i).set i (zas (pre ++ gat pre c.sg s.vals i) (sgA c.sg i).on) else gat pre c.sg s.vals i := rfl
  have hgl := zeq pre c.sg s.vals i;have w1 := za7 i (by omega);have w2 : IntKind.wrap .i64 (((fsC c : Nat) : Int) + (i : Nat)) = ((fsC c + i : Nat) : Int) := by rw [zbb _ (by omega) (by omega)]; omega
  generalize gat pre c.sg s.vals i = v at *;generalize sgA c.sg i = x at *;have hvl : (pre ++ v).length = lnC c := by rw [y0l, hgl, <- hfs, k4]; rfl
  have hvne : v ≠ [] := fun e => by rw [e] at hgl; simp at hgl; omega
  have pev := zqi (pre ++ v) _ x.on (y08 _) (by rw [hvl]; exact hon);rw [zhv] at pev;have hM2 := hMi.new (ck, .cells (setAt 0 z10 (List.take 10 (c10 x)))) (ck + 1);have hl2 : Am.look nx0 ((nx, ck, AObj.cells (setAt 0 z10 (List.take 10 (c10 x)))) :: hp) = some (ck0, .cells (bC (pre ++ v))) := (za5 hnx).trans hli;refine zb4 ?_;refine zaj rfl rfl rfl rfl za3 rfl rfl ?_;rw [zc7];refine zl6 ?_;refine zab rfl za3 (y07 _) rfl ?_;refine za4 rfl rfl rfl (fun h4 => ?_) fun h4 => ?_
  ·have h4 : x.kd = 0 := by simpa using h4
   rw [if_pos h4] at hgs;refine zl6 ?_;refine zbp rfl za3 (y07 _) rfl rfl ?_;repeat (first | refine zan rfl ?_)
   refine zal rfl (by show [_, AS.view _ VD (.ms nx0 ck0 1 0 (lnC c) none)] = _; rw [show VD = (VD - 1) + 1 from rfl, zd5 (pre ++ v) hvl hl2]; rfl) pev (fun _ => rfl) ?_
   refine zbh ?_;refine zab rfl hM2.hm hM2.lm rfl ?_;show Om _ _ _ _ _ _ (st _ ((30, wvA v q.iv q.sv) :: _) _ _ _) _ _;rw [zl2 hvne];refine zbh ?_;refine zab rfl hM2.hm hM2.lm rfl ?_;refine zbh ?_;have ez : ∀ o : Nat, 0 + ((o : Nat) : Int).toNat * 1 = o := fun o => by simp
   rw [ez, w2];obtain ⟨v1, v2, v3⟩ := hM2.hv hvne;have v1 : Am.look q.iv ((nx, ck, AObj.cells (setAt 0 z10 (List.take 10 (c10 x)))) :: hp) = some (q.sv, .cells (bC v)) := v1;have hM3 := hM2.putV (w := v.set i (zas (pre ++ v) x.on)) (y24 ..) hvne;refine zgc (id := q.iv) (sp := q.sv) (off := i) (cs := bC v) rfl rfl rfl v1 (by rw [zd0]; omega) rfl ?_;rw [zld];refine zi9 rfl rfl (y11 _) (by unfold lnC; omega) ?_;rw [ez];have hvn0 : q.iv ≠ nx0 := fun e => absurd (hM.hv (fun e2 => by rw [e2] at k4; simp at k4; omega)).2.1 (by rw [e]; exact y21 _);refine zgc (id := nx0) (sp := ck0) (off := fsC c + i) (cs := bC (pre ++ v)) rfl rfl rfl (by rw [za0, if_neg hvn0]; exact hl2) (by rw [zd0]; unfold lnC at hvl; omega) rfl ?_;have hM4 := hM3.off (j := nx0) (o := (ck0, AObj.cells (bC (pre ++ v.set i (zas (pre ++ v) x.on))))) (fun e => absurd hM.lm (by rw [e]; exact y21 _)) (fun _ => hvn0) (fun e e2 => absurd (hM.ht e).2.1 (by rw [e2]; exact y21 _));rw [zld, hfs, pre_set];rw [<- hgs] at hM4 ⊢;refine zb7 ?_;rw [w1];refine zad (show c.sg.length - (i + 1) < c.sg.length - i by omega) skp ⟨i + 1, _, _, _, rfl, hlt, hM4, by rw [za0, if_pos rfl], y15 hnx, ⟨Nat.le_succ_of_le hKi.next, Nat.le_succ_of_le hKi.clk, fun j hj hlt => ?_⟩, rfl⟩
   have hlt : j < nx0 := hlt;show Am.look j (zap nx0 _ (zap q.iv _ _)) = Am.look j hp0;rw [za0, if_neg (by omega), za0, if_neg (fun e => hj e.symm), za5 (by omega)];exact hKi.look j hj hlt
  ·have h4 : ¬ x.kd = 0 := by simpa using h4
   rw [if_neg h4] at hgs;refine zb7 ?_;rw [w1];rw [<- hgs] at hM2 hl2;exact zad (show c.sg.length - (i + 1) < c.sg.length - i by omega) skp ⟨i + 1, _, _, _, rfl, hlt, hM2, hl2, y15 hnx, hKi.trans (Keep.new _ ⟨hp, nx, ck⟩ _), rfl⟩
 ·have hie : i = c.sg.length := by
   have h4 : ¬ ((i : Nat) : Int) < (c.sg.length : Nat) := of_decide_eq_false h3;omega
  subst hie;refine zb4 ?_;refine zbq ?_;repeat (first | refine zem ?_)
  exact zaa ⟨.inl rfl, _, rfl, hMi, hKi⟩
def ArB (v : List Bool) (w : AV) (hp : List (Nat × Nat × AObj)) (nx : Nat) : Prop :=
 w = vsB v \/ (v ≠ [] /\ ∃ id sp, w = .ms id sp 1 0 v.length none /\ Am.look id hp = some (sp, .cells (bC v)) /\ id < nx)
def ArI (v : List Int) (w : AV) (hp : List (Nat × Nat × AObj)) (nx : Nat) : Prop :=
 w = vsI v \/ (v ≠ [] /\ ∃ id sp, w = .ms id sp 1 0 v.length none /\ Am.look id hp = some (sp, .cells (zC v)) /\ id < nx)
theorem ArB.view {v : List Bool} {w : AV} {hp0 hp : List (Nat × Nat × AObj)} {nx0 n nx ck : Nat} (h : ArB v w hp0 nx0) (hk : ∀ j, j < nx0 -> Am.look j hp = Am.look j hp0) (l : List (Nat × AV)) (d : Nat) : (st n l hp nx ck).view (d + 1) w = vsB v := by
 rcases h with rfl | ⟨_, id, sp, rfl, hl, hid⟩
 ·rfl
 ·exact zd5 v rfl ((hk id hid).trans hl)
theorem ArI.view {v : List Int} {w : AV} {hp0 hp : List (Nat × Nat × AObj)} {nx0 n nx ck : Nat} (h : ArI v w hp0 nx0) (hk : ∀ j, j < nx0 -> Am.look j hp = Am.look j hp0) (l : List (Nat × AV)) (d : Nat) : (st n l hp nx ck).view (d + 1) w = vsI v := by
 rcases h with rfl | ⟨_, id, sp, rfl, hl, hid⟩
 ·rfl
 ·exact zds v rfl ((hk id hid).trans hl)
theorem ArB.noM {v : List Bool} {w : AV} {hp : List (Nat × Nat × AObj)} {nx : Nat} (h : ArB v w hp nx) (e : v = []) : hasM w = false := by
 rcases h with rfl | ⟨hn, _⟩
 ·rfl
 ·exact absurd e hn
theorem ArI.noM {v : List Int} {w : AV} {hp : List (Nat × Nat × AObj)} {nx : Nat} (h : ArI v w hp nx) (e : v = []) : hasM w = false := by
 rcases h with rfl | ⟨hn, _⟩
 ·rfl
 ·exact absurd e hn
theorem ArB.cell {v : List Bool} {w : AV} {hp : List (Nat × Nat × AObj)} {nx : Nat} (h : ArB v w hp nx) : w.cells? = some [w] := by
 rcases h with rfl | ⟨_, id, sp, rfl, _, _⟩ <;> rfl
theorem ArI.cell {v : List Int} {w : AV} {hp : List (Nat × Nat × AObj)} {nx : Nat} (h : ArI v w hp nx) : w.cells? = some [w] := by
 rcases h with rfl | ⟨_, id, sp, rfl, _, _⟩ <;> rfl
theorem ArB.new {v : List Bool} {w : AV} {hp : List (Nat × Nat × AObj)} {nx : Nat} (h : ArB v w hp nx) (o : Nat × AObj) : ArB v w ((nx, o) :: hp) (nx + 1) := by
 rcases h with h | ⟨hn, id, sp, e, hl, hid⟩
 ·exact .inl h
 ·exact .inr ⟨hn, id, sp, e, (za5 hid).trans hl, y15 hid⟩
theorem ArI.new {v : List Int} {w : AV} {hp : List (Nat × Nat × AObj)} {nx : Nat} (h : ArI v w hp nx) (o : Nat × AObj) : ArI v w ((nx, o) :: hp) (nx + 1) := by
 rcases h with h | ⟨hn, id, sp, e, hl, hid⟩
 ·exact .inl h
 ·exact .inr ⟨hn, id, sp, e, (za5 hid).trans hl, y15 hid⟩
def rgC2 (bx sb : Nat) (wv wt : AV) (s : Sta) : Reg where
 m := 16
 dst := fun j => j + 3
 qv := fun j => match j with
  | 0 => some fun _ _ => .mptr bx sb (0 + 0)
  | 1 => some fun _ _ => vsI s.en
  | 2 => some fun _ _ => vsI s.en
  | 3 => some fun _ _ => .mptr bx sb (0 + 1)
  | 4 => some fun _ _ => vsB s.va
  | 5 => some fun _ _ => vsB s.va
  | 6 => some fun _ _ => .mptr bx sb (0 + 2)
  | 7 => some fun _ _ => vsB s.inp
  | 8 => some fun _ _ => vsB s.inp
  | 9 => some fun _ _ => .mptr bx sb (0 + 3)
  | 10 => some fun _ _ => wv
  | 11 => if s.vals = [] then some fun _ _ => vsB [] else none
  | 12 => some fun _ _ => .mptr bx sb (0 + 4)
  | 13 => some fun _ _ => wt
  | 14 => if s.tms = [] then some fun _ _ => vsI [] else none
  | 15 => some fun nm sm => .agg [vsI s.en, vsB s.va, vsB s.inp, wvA s.vals (nm 11) (sm 11), wtA true s.tms (nm 14) (sm 14)]
  | _ => none
 lw := fun j n q => match j with | 11 => .ms n q 1 0 s.vals.length none | 14 => .ms n q 1 0 s.tms.length none | _ => .mptr n q 0
 lc := fun j => match j with | 11 => bC s.vals | 14 => zC s.tms | _ => zf1
section
variable {bx sb : Nat} {wv wt : AV} {s : Sta} {base : List (Nat × AV)} {b : Nat} {old : Nat -> Option (Nat × AObj)} {D : List Nat} {l : List (Nat × AV)} {hp : List (Nat × Nat × AObj)} {nx : Nat} {nm sm : Nat -> Nat}
theorem c2V (hK : Kr (rgC2 bx sb wv wt s) base b old D l hp nx nm sm) (h : 11 ∈ D) : zah 14 l = some (wvA s.vals (nm 11) (sm 11)) := by
 unfold wvA;by_cases hv : s.vals = []
 ·rw [if_pos hv];exact hK.q 11 _ h (if_pos hv)
 ·rw [if_neg hv];exact hK.lv 11 h (if_neg hv)
theorem c2T (hK : Kr (rgC2 bx sb wv wt s) base b old D l hp nx nm sm) (h : 14 ∈ D) : zah 17 l = some (wtA true s.tms (nm 14) (sm 14)) := by
 unfold wtA;by_cases hv : s.tms = []
 ·rw [if_neg (fun e => e.2 hv), hv];exact hK.q 14 _ h (if_pos hv)
 ·rw [if_pos ⟨rfl, hv⟩];exact hK.lv 14 h (if_neg hv)
end
theorem zne {S : AS} {a k : Nat} {p : AV} {cs : List AV} (h1 : S.get a = some p) (d1 : S.deref p = some cs) (hk : k <= cs.length) : S.res [.cell a (some k)] = some (.agg (cs.take k)) := by
 simp only [AS.res, AS.resL, zq1, h1, d1, if_pos hk];rfl
structure Kp (M : Nat -> Prop) (H H' : HS) : Prop where
 next : H.next <= H'.next
 look : ∀ i, ¬ M i -> i < H.next -> Am.look i H'.heap = Am.look i H.heap
theorem Keep.kp {M : Nat -> Prop} {H H' : HS} (h : Keep M H H') : Kp M H H' := ⟨h.next, h.look⟩
theorem Kp.refl (M : Nat -> Prop) (H : HS) : Kp M H H := ⟨y08 _, fun _ _ _ => rfl⟩
theorem Kp.trans {M : Nat -> Prop} {H H' H'' : HS} (h : Kp M H H') (k : Kp M H' H'') : Kp M H H'' :=
 ⟨y0u h.next k.next, fun i hm hi => (k.look i hm (y09 hi h.next)).trans (h.look i hm hi)⟩
theorem Kp.new (M : Nat -> Prop) (H : HS) (o : Nat × AObj) (ck : Nat) : Kp M H ⟨(H.next, o) :: H.heap, H.next + 1, ck⟩ :=
 ⟨y0y _, fun _ _ hi => za5 hi⟩
structure Cp (s : Sta) (n1 s1 n2 s2 : Nat) (H H' : HS) : Prop where
 hv : s.vals ≠ [] -> Am.look n1 H'.heap = some (s1, .cells (bC s.vals)) /\ H.next <= n1 /\ n1 < H'.next
 ht : s.tms ≠ [] -> Am.look n2 H'.heap = some (s2, .cells (zC s.tms)) /\ H.next <= n2 /\ n2 < H'.next
 ne : s.vals ≠ [] -> s.tms ≠ [] -> n1 ≠ n2
 kp : Kp (fun _ => False) H H'
set_option maxHeartbeats 4000000 in
set_option maxRecDepth 100000 in
theorem zo9 {w0 : World} {N0 : Nat} {s : Sta} {wv wt : AV} (hs : Shs s) (H : HS) (hwv0 : ArB s.vals wv H.heap H.next) (hwt0 : ArI s.tms wt H.heap H.next) :
  FT Tryz.prog w0 N0 39 [.agg [vsI s.en, vsB s.va, vsB s.inp, wv, wt]] H (fun v H' => ∃ n1 s1 n2 s2, v = .agg [vsI s.en, vsB s.va, vsB s.inp, wvA s.vals n1 s1, wtA true s.tms n2 s2] /\ Cp s n1 s1 n2 s2 H H') := by
 obtain ⟨hp, nx, ck⟩ := H;refine zbl env0_ok fn39 [(0, .agg [vsI s.en, vsB s.va, vsB s.inp, wv, wt])] (y04 rfl) rfl ?_;unfold ic39;refine zsr rfl (zd6 rfl rfl (zce (onu ?_)));have hwv := (hwv0.new (ck, .cells [vsI s.en, vsB s.va, vsB s.inp, wv, wt])).new (ck + 1, .cells zf1);have hwt := (hwt0.new (ck, .cells [vsI s.en, vsB s.va, vsB s.inp, wv, wt])).new (ck + 1, .cells zf1);have hlb : Am.look nx ((nx + 1, ck + 1, AObj.cells zf1) :: (nx, ck, .cells [vsI s.en, vsB s.va, vsB s.inp, wv, wt]) :: hp) = some (ck, .cells [vsI s.en, vsB s.va, vsB s.inp, wv, wt]) := (za5 (y07 _)).trans za3;have hlr : Am.look (nx + 1) ((nx + 1, ck + 1, AObj.cells zf1) :: (nx, ck, .cells [vsI s.en, vsB s.va, vsB s.inp, wv, wt]) :: hp) = some (ck + 1, .cells zf1) := za3;have hold : ∀ j, j < nx -> Am.look j ((nx + 1, ck + 1, AObj.cells zf1) :: (nx, ck, .cells [vsI s.en, vsB s.va, vsB s.inp, wv, wt]) :: hp) = Am.look j hp := fun j hj => (za5 (by show j < nx + 1; omega)).trans (za5 hj)
 show Zm _ _ _ _ _ (st 19 [(2, .mptr (nx + 1) (ck + 1) 0), (1, .mptr nx ck 0), (0, _)] ((nx + 1, ck + 1, AObj.cells zf1) :: (nx, ck, .cells [vsI s.en, vsB s.va, vsB s.inp, wv, wt]) :: hp) _ _) _ _;generalize ((nx + 1, ck + 1, AObj.cells zf1) :: (nx, ck, .cells [vsI s.en, vsB s.va, vsB s.inp, wv, wt]) :: hp) = hp1 at *;refine zb5 (zpd env0_ok.mix fun rd => ?_);have hbx : nx < nx + 1 + 1 := by omega
 refine zqp (rgC2 nx ck wv wt s) [(1, .mptr nx ck 0), (2, .mptr (nx + 1) (ck + 1) 0)] (fun j S => ∃ l hp nx3 ck3 n1 s1 n2 s2, S = st 19 l hp nx3 ck3 /\ zah 2 l = some (.mptr (nx + 1) (ck + 1) 0) /\ nx + 1 < nx3 /\ (∀ j, j < nx -> Am.look j hp = Am.look j hp1) /\ (j = 16 -> Am.look (nx + 1) hp = some (ck + 1, .cells zf1) /\ zah 18 l = some (.agg [vsI s.en, vsB s.va, vsB s.inp, wvA s.vals n1 s1, wtA true s.tms n2 s2])) /\ (j = 17 -> Am.look (nx + 1) hp = some (ck + 1, .cells [vsI s.en, vsB s.va, vsB s.inp, wvA s.vals n1 s1, wtA true s.tms n2 s2])) /\
   (s.vals ≠ [] -> Am.look n1 hp = some (s1, .cells (bC s.vals)) /\ nx + 1 < n1 /\ n1 < nx3) /\ (s.tms ≠ [] -> Am.look n2 hp = some (s2, .cells (zC s.tms)) /\ nx + 1 < n2 /\ n2 < nx3) /\ (s.vals ≠ [] -> s.tms ≠ [] -> n1 ≠ n2)) 17 rfl rfl ?_ ?_ ?_ ?_ ?_ ?_
 ·intro t v ht;rcases y0f.1 ht with e | ht
  ·cases e; rfl
  ·cases y0o.1 ht; rfl
 ·intro j f e nm sm nm' sm' hp;unfold rgC2 at e;dsimp only at e;split at e;all_goals first
   | (cases e; rfl)
   | (cases e; done)
   | (
     split at e
     ·cases e; try rfl
     ·cases e; try rfl)
   | (
     cases e;have a := hp 11 (by decide);have b := hp 14 (by decide);show AV.agg [vsI s.en, vsB s.va, vsB s.inp, wvA s.vals (nm 11) (sm 11), wtA _ s.tms (nm 14) (sm 14)] = AV.agg [vsI s.en, vsB s.va, vsB s.inp, wvA s.vals (nm' 11) (sm' 11), wtA _ s.tms (nm' 14) (sm' 14)];rw [a.1, a.2, b.1, b.2])
 ·intro j hj n1 D l hp' nx' ck' nm sm hK hp;have hj : j < 16 := hj
  match j, hj with
   | 0, _ => exact fun go => za9 rfl rfl (zat (hK.bs 1 _ (y01 ..))) go
   | 1, _ => exact fun go => za9 rfl rfl (zba (hK.q 0 _ (hp 0 (y01 ..)) rfl) ((hK.ol nx hbx).trans hlb) (y09 hbx hK.bx) rfl) go
   | 2, _ => exact fun go => zht rfl rfl (zh0 (hK.q 1 _ (hp 1 (y01 ..)) rfl)) rfl (zup s.en (by have := hs.e; omega)) noC (fun m hm => absurd hm y0c) go
   | 3, _ => exact fun go => za9 rfl rfl (zat (hK.bs 1 _ (y01 ..))) go
   | 4, _ => exact fun go => za9 rfl rfl (zba (hK.q 3 _ (hp 3 (y01 ..)) rfl) ((hK.ol nx hbx).trans hlb) (y09 hbx hK.bx) rfl) go
   | 5, _ => exact fun go => zht rfl rfl (zh0 (hK.q 4 _ (hp 4 (y01 ..)) rfl)) rfl (zpk s.va (by have := hs.v; omega)) noC (fun m hm => absurd hm y0c) go
   | 6, _ => exact fun go => za9 rfl rfl (zat (hK.bs 1 _ (y01 ..))) go
   | 7, _ => exact fun go => za9 rfl rfl (zba (hK.q 6 _ (hp 6 (y01 ..)) rfl) ((hK.ol nx hbx).trans hlb) (y09 hbx hK.bx) rfl) go
   | 8, _ => exact fun go => zht rfl rfl (zh0 (hK.q 7 _ (hp 7 (y01 ..)) rfl)) rfl (zpk s.inp (by have := hs.i; omega)) noC (fun m hm => absurd hm y0c) go
   | 9, _ => exact fun go => za9 rfl rfl (zat (hK.bs 1 _ (y01 ..))) go
   | 10, _ => exact fun go => za9 rfl rfl (zba (hK.q 9 _ (hp 9 (y01 ..)) rfl) ((hK.ol nx hbx).trans hlb) (y09 hbx hK.bx) rfl) go
   | 11, _ =>
    by_cases hv : s.vals = []
    ·rw [show (rgC2 nx ck wv wt s).qv 11 = some (fun _ _ => vsB []) from if_pos hv]
     exact fun go => zht rfl rfl (zh0 (hK.q 10 _ (hp 10 (y01 ..)) rfl)) (congrArg (fun x => [x]) (hwv.view hK.ol _ (VD - 1))) (by have := zpk s.vals (by have := hs.b; omega); rw [hv] at this ⊢; exact this) (fun h => absurd h (by show ¬ (hasM wv || false) = true; rw [hwv.noM hv]; exact y2a)) (fun m hm => absurd hm y0c) go
    ·rw [show (rgC2 nx ck wv wt s).qv 11 = none from if_neg hv]
     exact fun go => zqm rfl rfl (zh0 (hK.q 10 _ (hp 10 (y01 ..)) rfl)) (congrArg (fun x => [x]) (hwv.view hK.ol _ (VD - 1))) (clone59o s.vals hv (by have := hs.b; omega)) (zft _) go
   | 12, _ => exact fun go => za9 rfl rfl (zat (hK.bs 1 _ (y01 ..))) go
   | 13, _ => exact fun go => za9 rfl rfl (zba (hK.q 12 _ (hp 12 (y01 ..)) rfl) ((hK.ol nx hbx).trans hlb) (y09 hbx hK.bx) rfl) go
   | 14, _ =>
    by_cases hv : s.tms = []
    ·rw [show (rgC2 nx ck wv wt s).qv 14 = some (fun _ _ => vsI []) from if_pos hv]
     exact fun go => zht rfl rfl (zh0 (hK.q 13 _ (hp 13 (y01 ..)) rfl)) (congrArg (fun x => [x]) (hwt.view hK.ol _ (VD - 1))) (by have := zup s.tms (by have := hs.t; omega); rw [hv] at this ⊢; exact this) (fun h => absurd h (by show ¬ (hasM wt || false) = true; rw [hwt.noM hv]; exact y2a)) (fun m hm => absurd hm y0c) go
    ·rw [show (rgC2 nx ck wv wt s).qv 14 = none from if_neg hv]
     exact fun go => zqm rfl rfl (zh0 (hK.q 13 _ (hp 13 (y01 ..)) rfl)) (congrArg (fun x => [x]) (hwt.view hK.ol _ (VD - 1))) (clone58o s.tms hv (by have := hs.t; omega)) (zhy _) go
   | 15, _ => exact fun go => za9 rfl rfl (zi0 (zq5 (hK.q 2 _ (hp 2 (y01 ..)) rfl) (hK.q 5 _ (hp 5 (me 1 rfl)) rfl) (hK.q 8 _ (hp 8 (me 2 rfl)) rfl) (c2V hK (hp 11 (me 3 rfl))) (c2T hK (hp 14 (me 4 rfl)))) (fill5 rfl rfl rfl (zsi _ _ _) (zsh _ _ _ _))) go
   | j + 16, h => exact absurd h (by omega)
 ·intro l hp' nx' ck' nm sm hK;have m : ∀ j, j < 16 -> j ∈ List.range 16 := fun j hj => y0m.2 hj;have q11 : s.vals ≠ [] -> (rgC2 nx ck wv wt s).qv 11 = none := fun hv => if_neg hv;have q14 : s.tms ≠ [] -> (rgC2 nx ck wv wt s).qv 14 = none := fun hv => if_neg hv;exact ⟨l, hp', nx', ck', nm 11, sm 11, nm 14, sm 14, rfl, hK.bs 2 _ (me 1 rfl), hK.bx, fun j hj => hK.ol j (by show j < nx + 1 + 1; omega), fun _ => ⟨(hK.ol _ (y07 _)).trans hlr, hK.q 15 _ (m 15 (by decide)) rfl⟩, fun h => absurd h (by show ¬ 16 = 17; decide),
   fun hv => by obtain ⟨b1, b2, b3⟩ := hK.lh 11 (m 11 (by decide)) (q11 hv); exact ⟨b1, b2, b3⟩, fun hv => by obtain ⟨b1, b2, b3⟩ := hK.lh 14 (m 14 (by decide)) (q14 hv); exact ⟨b1, b2, b3⟩, fun h1 h2 e => absurd (hK.ij 11 14 (m 11 (by decide)) (m 14 (by decide)) (q11 h1) (q14 h2) e) (by decide)⟩
 ·rintro j h1 h2 S ⟨l, hp', nx3, ck3, n1, s1, n2, s2, rfl, a2, hn3, ho, k5, _, kv, kt, kn⟩ m1 D go;have h1 : 16 <= j := h1;obtain rfl : j = 16 := by omega
  obtain ⟨k5, q5⟩ := k5 rfl;refine zik rfl (zf8 a2 q5 rfl rfl k5 rfl ?_) (go _ ⟨l, _, _, _, n1, s1, n2, s2, rfl, a2, hn3, fun j hj => ?_, fun h => absurd h (by decide), fun _ => ?_, fun hv => ⟨?_, (kv hv).2⟩, fun hv => ⟨?_, (kt hv).2⟩, kn⟩)
  ·show ([vsI s.en, vsB s.va, vsB s.inp, wvA s.vals n1 s1, wtA true s.tms n2 s2] : List AV).all AV.isCell = true;simp only [y1s, y2l, zii, zig];rfl
  ·rw [za0, if_neg (by omega)]; exact ho j hj
  ·rw [za0, if_pos rfl]; rfl
  ·rw [za0, if_neg (by have := (kv hv).2.1; omega)]; exact (kv hv).1
  ·rw [za0, if_neg (by have := (kt hv).2.1; omega)]; exact (kt hv).1
 ·rintro S ⟨l, hp', nx3, ck3, n1, s1, n2, s2, rfl, a2, hn3, ho, _, k5, kv, kt, kn⟩;have k5 := k5 rfl;refine Um.ok ?_;refine zau (zby ?_);refine zaa ⟨.inr rfl, _, ?_, n1, s1, n2, s2, rfl, ?_⟩
  ·refine (congrArg some (show AV.agg [vsI s.en, vsB s.va, vsB s.inp, wvA s.vals n1 s1, wtA true s.tms n2 s2] = .agg (List.take 5 [vsI s.en, vsB s.va, vsB s.inp, wvA s.vals n1 s1, wtA true s.tms n2 s2]) from rfl)).symm ▸ zne ((zch 2).trans a2) (zci (sp := ck + 1) (cs := [vsI s.en, vsB s.va, vsB s.inp, wvA s.vals n1 s1, wtA true s.tms n2 s2]) k5 hn3) (y08 _)
  ·exact ⟨fun hv => ⟨(kv hv).1, by have := (kv hv).2.1; show nx <= n1; omega, (kv hv).2.2⟩, fun hv => ⟨(kt hv).1, by have := (kt hv).2.1; show nx <= n2; omega, (kt hv).2.2⟩, kn, ⟨by show nx <= nx3; omega, fun j _ hj => (ho j hj).trans (hold j hj)⟩⟩
end Go.Proofs.YtdolbghhcijonaaGreat
