/-
  A WITNESS OF BOUNDS.; A CYCLE THAT CONTRADICTS IS VERIFIED.; CYCLES: Cycle walked.; CLOSED BOUNDS OF THE LAW: what the pivots need.; ONE MORE BOUND: With.; ONE MORE BOUND: With itself.; TopPathsLayers: the bounds of the law; what Witness says of them.; A SEARCH INTO THE DEPTH, in plain Lean: what is closed behind a vertex; the last closed vertex of a component.
-/
import Derived.Test.YtfbeableaihooaaNX4
namespace Go.Proofs.Ytfbeableaihooaa
open Go Go.Am
theorem o_nilqv {P : Program} {w0 : World} {N0 n nx ck d : Nat} {mk : List (Nat × Nat)} {md : Md} {pf : Kn} {ios : List Opr} {k : List Fr} {Q : Exit → AS → Prop} {l : List (Nat × AV)} {hp : List (Nat × Nat × AObj)} {neg : Bool} {x : Arg} {e : List AV} {es : List (List AV)} (hx : zb6 x l = some (.vs (e :: es)))
  (go : Om P w0 N0 md pf ios (st n ((d, .bool neg) :: l) hp nx ck mk) k Q) (hxo : Ops pf (st n l hp nx ck mk) (.nilq neg x) := by exact trivial) :
  Om P w0 N0 md pf (⟨some d, .nilq neg x, none⟩ :: ios) (st n l hp nx ck mk) k Q :=
 zdt (by simp only [iop, zaq, hx]) go hxo
theorem o_peqt {P : Program} {w0 : World} {N0 n nx ck d : Nat} {mk : List (Nat × Nat)} {md : Md} {pf : Kn} {ios : List Opr} {k : List Fr} {Q : Exit → AS → Prop} {l : List (Nat × AV)} {hp : List (Nat × Nat × AObj)} {x : Arg} (hx : zb6 x l = some .nilp)
  (go : Om P w0 N0 md pf ios (st n ((d, .bool true) :: l) hp nx ck mk) k Q) (hxo : Ops pf (st n l hp nx ck mk) (.peq false x (.c .nilp)) := by exact trivial) :
  Om P w0 N0 md pf (⟨some d, .peq false x (.c .nilp), none⟩ :: ios) (st n l hp nx ck mk) k Q :=
 zdt (by simp only [iop, zaq, hx]; rfl) go hxo
theorem zt1 {n : Nat} {D : Nat → Nat → Int} {q : List Int} (hq : q ≠ []) (p51 : PF Try.prog 51 [cB (n : Nat) (zca D (n + 1))] (vsI q)) : PF Try.prog 31 [cB (n : Nat) (zca D (n + 1))] (.tup [.nilp, vsI q]) := by
 cases q with
 | nil => exact absurd rfl hq
 | cons z q =>
 refine zaw env0_ok fn31 [(0, .agg [.int .i64 (n : Nat), cM (zca D (n + 1))])] (by show 1 ≤ 16; decide) rfl fun w0 N0 => ?_
 unfold ic31
 refine zsr rfl (zd6 rfl rfl (za1 rfl (za1 rfl (onu (za7 (zsr rfl (zb3 rfl rfl rfl rfl ?_)))))))
 refine zat rfl rfl p51 noC ?_
 refine za1 rfl (onr rfl (za1 rfl ?_))
 refine o_nilqv rfl ?_
 refine onu (zbz rfl (zsr rfl (za1 rfl (za1 rfl (za1 rfl (onu (zau (zak ?_))))))))
 exact zao ⟨.inr rfl, _, rfl, rfl⟩
def b21_0 : IC := .seq (.region [oM 24 (.bin .lss (.t 23) (.t 22))] none)
 (.seq (.cond (.t 24) (.skip)
 (.exit 0))
 (.seq (.block 1 (.seq (.region [oT 25 23,
  oT 8 25] none)
 (.seq (.seq (.region [oT 26 5,
  oT 27 8,
  oM 28 (.bin .add (.t 27) (.c (.int .i64 1))),
  oM 29 (.nilchk (.t 26)),
  oF 30 1 29,
  oM 31 (.idxarr 13 13 (.t 30) (.t 28)),
  oM 32 (.idxarr 13 1 (.t 31) (.c (.int .i64 0))),
  oN 33 32,
  oM 34 (.bin .eql (.t 33) (.c (.int .i64 (-1099511627776))))] none)
 (.cond (.t 34) (.seq (.region [oM 2 (.mov (.c (.nils))),
  oM 3 (.mov (.c (.int .i64 14)))] none)
 (.ret))
 (.skip)))
 (.region [oT 35 7,
  oT 36 5,
  oT 37 8,
  oM 38 (.bin .add (.t 37) (.c (.int .i64 1))),
  oM 39 (.nilchk (.t 36)),
  oF 40 1 39,
  oM 41 (.idxarr 13 13 (.t 40) (.t 38)),
  oM 42 (.idxarr 13 1 (.t 41) (.c (.int .i64 0))),
  oN 43 42,
  oM 44 (.un .neg (.t 43)),
  oM 45 (.bslice 1 1 [.int .i64 0] [(0, 1, (.t 44))]),
  oM 46 (.append 1 8 [.int .i64 0] (.t 35) (.t 45)),
  oT 7 46] none))))
 (.region [oM 47 (.bin .add (.t 23) (.c (.int .i64 1))),
  oT 23 47] none)))
-- pneumatic/bounds.Witness
def ic21 : IC := .seq (.region [oM 1 (.box (.t 0)),
  oM 2 (.mov (.c (.nils))),
  oM 3 (.mov (.c (.int .i64 0)))] none)
 (.seq (.seq (.region [oL 9 2 1,
  oM 10 (.call (.c (.fn 30 [] [])) [(.t 9)]),
  oT 4 10] none)
 (.seq (.region [oT 11 4,
  oM 12 (.bin .neq (.t 11) (.c (.int .i64 0)))] none)
 (.cond (.t 12) (.seq (.region [oT 13 4,
  oM 2 (.mov (.c (.nils))),
  oT 3 13] none)
 (.ret))
 (.skip))))
 (.seq (.region [oL 15 2 1,
  oM 16 (.call (.c (.fn 31 [] [])) [(.t 15)]),
  oT 14 16,
  oM 17 (.extract (.t 14) 0),
  oM 18 (.extract (.t 14) 1),
  oT 5 17,
  oT 6 18] none)
 (.seq (.seq (.region [oT 19 5,
  oM 20 (.peq false (.t 19) (.c (.nilp)))] none)
 (.cond (.t 20) (.seq (.region [oM 2 (.mov (.c (.nils))),
  oM 3 (.mov (.c (.int .i64 16)))] none)
 (.ret))
 (.skip)))
 (.seq (.region [oM 7 (.mov (.c (.nils)))] none)
 (.seq (.seq (.region [oF 21 0 1,
  oN 22 21,
  oM 23 (.mov (.c (.int .i64 0)))] none)
 (.block 0 (.loop b21_0)))
 (.seq (.region [oT 48 7,
  oT 2 48,
  oM 3 (.mov (.c (.int .i64 0)))] none)
 (.ret)))))))
theorem fn21 : env0.fn 21 = some ⟨49, ic21, [.t 2, .t 3]⟩ := by kernel_rfl
theorem zrv {n : Nat} {D : Nat → Nat → Int} {q : List Int} (hn : n ≤ 12) (hD : OkN D (n + 1)) (hq : q ≠ []) (p51 : PF Try.prog 51 [cB (n : Nat) (zca D (n + 1))] (vsI q)) : PF Try.prog 21 [cB (n : Nat) (zca D (n + 1))] (.tup [.vs [], .int .i64 16]) := by
 have p30 := zkh hn hD
 have p31 := zt1 hq p51
 refine zaw env0_ok fn21 [(0, .agg [.int .i64 (n : Nat), cM (zca D (n + 1))])] (by show 1 ≤ 49; decide) rfl fun w0 N0 => ?_
 unfold ic21
 refine zsr rfl (zd6 rfl rfl (za1 rfl (za1 rfl (onu (za7 (zsr rfl (zb3 rfl rfl rfl rfl ?_)))))))
 refine zat rfl rfl p30 noC ?_
 refine za1 rfl (onr rfl (za1 rfl (zdc rfl rfl rfl (onu (zbn rfl (zae (za5 (zsr rfl ?_))))))))
 refine zb3 rfl rfl rfl rfl ?_
 refine zat rfl rfl p31 noC ?_
 refine za1 rfl (zb0 rfl rfl (zb0 rfl rfl (za1 rfl (za1 rfl (onu (za7 (zsr rfl (za1 rfl ?_))))))))
 refine o_peqt rfl ?_
 refine onu (zbz rfl (zsr rfl (za1 rfl (za1 rfl (onu (zau (zak ?_)))))))
 exact zao ⟨.inr rfl, _, rfl, rfl⟩
def zwc (G : Nat → Nat → Int) (i : Nat) : List Int := (List.range i).map fun v => -(G (v + 1) 0)
theorem tms_succ (G : Nat → Nat → Int) (i : Nat) : zwc G i ++ [-(G (i + 1) 0)] = zwc G (i + 1) := by
 unfold zwc
 rw [y2x, y1u]
 rfl
theorem zoo (G : Nat → Nat → Int) (i : Nat) : (zwc G i).length = i := by
 unfold zwc
 rw [y04, y0m]
set_option maxHeartbeats 4000000 in
set_option maxRecDepth 20000 in
theorem zwk {n : Nat} {D : Nat → Nat → Int} {Gs : Nat → Nat → Nat → Int} (hn : n ≤ 12) (hD : OkN D (n + 1)) (p51 : PF Try.prog 51 [cB (n : Nat) (zca D (n + 1))] .nil0) (hp : PvO (n + 1) Gs) (hg : Gs 0 = ofG D (n + 1) (n + 1) 0)
  (hl : ∀ v, v < n → Gs (n + 1) (v + 1) 0 ≠ nnB ∧ -1000 ≤ Gs (n + 1) (v + 1) 0 ∧ Gs (n + 1) (v + 1) 0 ≤ 1000) : PF Try.prog 21 [cB (n : Nat) (zca D (n + 1))] (.tup [vsI (zwc (Gs (n + 1)) n), .int .i64 0]) := by
 have p30 := zkh hn hD
 refine zaw env0_ok fn21 [(0, .agg [.int .i64 (n : Nat), cM (zca D (n + 1))])] (by show 1 ≤ 49; decide) rfl fun w0 N0 => ?_
 unfold ic21
 refine zsr rfl (zd6 rfl rfl (za1 rfl (za1 rfl (onu (za7 (zsr rfl (zb3 rfl rfl rfl rfl ?_)))))))
 refine zat rfl rfl p30 noC ?_
 refine za1 rfl (onr rfl (za1 rfl (zdc rfl rfl rfl (onu (zbn rfl (zae (za5 (zsr rfl ?_))))))))
 refine zb3 rfl rfl rfl rfl ?_
 refine zry _ rfl rfl (zi8 (zt0 hn p51 hp hg ⟨_, _, _⟩)) (fun _ _ _ _ hm => absurd hm y0h) fun v H2 hF => ?_
 obtain ⟨id, s, rfl, hk, h2, h3, hls⟩ := hF
 have h2 : 1 ≤ id := h2
 have k0 := hk.2 0 (by show 0 < 1; decide)
 generalize Gs (n + 1) = G at *
 refine za1 rfl (zb0 rfl rfl (zb0 rfl rfl (za1 rfl (za1 rfl (onu (za7 (zsr rfl (za1 rfl ?_))))))))
 refine o_peqn rfl ?_
 refine onu (zbn rfl (zae (za5 (za7 ?_))))
 refine zcc [] [(0, 0, [.int .i64 (n : Nat), cM (zca D (n + 1))]), (id, s, sqC (n + 1) G)] [(1, .vptr [.int .i64 (n : Nat), cM (zca D (n + 1))]), (5, .vptr (sqC (n + 1) G))] rfl (.cons (k0.trans rfl) rfl (.cons hls (sq_hasM _ _) .nil)) .nil
  (.cons rfl (.fptr rfl rfl) (.cons rfl (.fptr ?_ rfl) .nil)) ?_
 ·show (match Nat.beq 0 id && Nat.beq 0 s with | true => _ | false => fzl id s [(id, s, sqC (n + 1) G)]) = _
  have : Nat.beq 0 id = false := by
   cases hb : Nat.beq 0 id with
   | false => rfl
   | true => have := y0o hb; omega
  rw [this, Bool.false_and]
  exact znu id s _
 refine za0 rfl (za1 rfl (onu (za7 (zsr rfl (zaz rfl rfl rfl (zag rfl rfl (za1 rfl (onu (zac ?_)))))))))
 have hsl := zqm (n + 1) G
 refine zb8 (fun mm S => ∃ i w hp nx ck, mm = n - i ∧ i ≤ n ∧ Gv 0 (zwc G i) w hp nx ∧ S = st 49 [(1, .vptr [.int .i64 (n : Nat), cM (zca D (n + 1))]), (5, .vptr (sqC (n + 1) G)), (7, w), (22, .int .i64 (n : Nat)), (23, .int .i64 (i : Nat))] hp nx ck) n
  (za9 (.cons rfl (.cons rfl (.cons rfl (.cons rfl (.cons rfl .nil)))))) ⟨0, .nils, [], 0, 1, rfl, y0s _, .inl ⟨rfl, rfl⟩, rfl⟩ ?_
 rintro mm S ⟨i, w, hp, nx, ck, rfl, hi, hW, rfl⟩
 unfold b21_0
 refine zsr rfl ?_
 refine zam rfl rfl rfl (fun h4 => ?_) fun h4 => ?_
 ·have hlt : i < n := y0x.1 (of_decide_eq_true h4)
  obtain ⟨g1, g2, g3⟩ := hl i hlt
  have gs := sqv_get (n + 1) G (i := i + 1) (j := 0) (by omega) (by omega)
  have htl := zoo G i
  have hts := tms_succ G i
  generalize G (i + 1) 0 = x at *
  repeat (first | refine za7 ?_ | refine za0 rfl ?_ | refine za8 ?_ | refine za5 ?_ | refine zac ?_ | refine zae ?_ | refine zbz rfl ?_ | refine za1 rfl ?_ | refine zaz rfl rfl rfl ?_ | refine zav (op := .add) rfl rfl rfl ?_ | refine o_nilv rfl ?_)
  rw [zab i (by omega)]
  refine zgf rfl rfl (decide_eq_true ⟨by omega, by omega, by rw [y2s, hsl]; omega⟩) rfl ?_
  refine zgf rfl rfl (decide_eq_true ⟨by omega, by omega, by rw [y2s, y2s, hsl]; omega⟩) gs ?_
  refine zag rfl rfl ?_
  refine zam rfl rfl rfl (fun h5 => ?_) fun h5 => ?_
  ·have : x = nnB := by unfold nnB; simpa using h5
   exact absurd this g1
  refine onu (zbn rfl (zae (za5 (za0 rfl (za1 rfl (za1 rfl (za1 rfl (zav (op := .add) rfl rfl rfl (o_nilv rfl (zaz rfl rfl rfl ?_))))))))))
  rw [zab i (by omega)]
  refine zgf rfl rfl (decide_eq_true ⟨by omega, by omega, by rw [y2s, hsl]; omega⟩) rfl ?_
  refine zgf rfl rfl (decide_eq_true ⟨by omega, by omega, by rw [y2s, y2s, hsl]; omega⟩) gs ?_
  refine zag rfl rfl ?_
  refine o_un rfl rfl ?_
  rw [zd8 _ (by omega) (by omega), Int.zero_sub]
  refine zbi rfl rfl ?_
  refine o_gapp (hW.fresh ck (.cells [.int .i64 (-x)])) (Nat.succ_pos nx) (by rw [htl]; omega) rfl rfl zah (by decide) fun w2 hp2 nx2 ck2 hW2 _ _ => ?_
  rw [hts] at hW2
  refine za1 rfl (za8 (zbd (za5 (za0 rfl (zav (op := .add) rfl rfl rfl (za1 rfl (za8 ?_)))))))
  rw [zab i (by omega)]
  exact zal (show n - (i + 1) < n - i by omega) (za9 (.cons rfl (.cons rfl (.cons rfl (.cons rfl (.cons rfl .nil)))))) ⟨i + 1, _, _, _, _, rfl, hlt, hW2, rfl⟩
 obtain rfl : i = n := by have := of_decide_eq_false h4; omega
 refine onu (za7 (zbn rfl (zbb (zad ?_))))
 refine zby ?_
 refine zb7 (za5 (zsr rfl (za1 rfl (za1 rfl (za1 rfl (onu (zau ?_)))))))
 refine zao ⟨.inr rfl, _, rfl, ?_⟩
 exact congrArg AV.tup (zf1 hW.view rfl)
theorem iL_at {c : List Nat} {i : Nat} (h : i < c.length) : ((iL c).map fun z => ([.int .i64 z] : List AV))[((i : Nat) : Int).toNat]? = some [.int .i64 (gN c i : Nat)] := by
 unfold iL
 rw [y0t, y0d, y0d, y07 h, gN_at h]
 rfl
def b25_0 : IC := .seq (.region [oM 24 (.bin .lss (.t 23) (.t 22))] none)
 (.seq (.cond (.t 24) (.skip)
 (.exit 0))
 (.seq (.block 1 (.seq (.region [oM 25 (.idxs 1 (.t 21) (.t 23)),
  oN 26 25,
  oT 8 26] none)
 (.seq (.region [oT 27 8,
  oM 28 (.bin .lss (.t 27) (.c (.int .i64 0))),
  oT 29 28,
  ⟨(some 30), .mov (.t 8), some (29, false)⟩,
  ⟨(some 31), .faddr 0 (.t 2), some (29, false)⟩,
  ⟨(some 32), .load none (.t 31), some (29, false)⟩,
  ⟨(some 33), .bin .gtr (.t 30) (.t 32), some (29, false)⟩,
  oM 34 (.pick (.t 29) (.c (.bool true)) (.t 33))] none)
 (.cond (.t 34) (.seq (.region [oM 4 (.mov (.c (.bool false))),
  oM 5 (.mov (.c (.int .i64 2)))] none)
 (.ret))
 (.skip)))))
 (.region [oM 35 (.bin .add (.t 23) (.c (.int .i64 1))),
  oT 23 35] none)))
def b25_2 : IC := .seq (.region [oM 39 (.bin .lss (.t 38) (.t 37))] none)
 (.seq (.cond (.t 39) (.skip)
 (.exit 2))
 (.seq (.block 3 (.seq (.region [oT 40 38,
  oM 41 (.idxs 1 (.t 36) (.t 38)),
  oN 42 41,
  oT 10 40,
  oT 11 42] none)
 (.seq (.region [oF 43 1 2,
  oN 44 43,
  oT 45 11,
  oM 46 (.idxs 1 (.t 44) (.t 45)),
  oN 47 46,
  oT 48 1,
  oT 49 10,
  oM 50 (.bin .add (.t 49) (.c (.int .i64 1))),
  oT 51 1,
  oM 52 (.len false (.t 51)),
  oM 53 (.bin .rem (.t 50) (.t 52)),
  oM 54 (.idxs 1 (.t 48) (.t 53)),
  oN 55 54,
  oM 56 (.idxs 1 (.t 47) (.t 55)),
  oN 57 56,
  oT 12 57] (some [[], [0], [], [1, 2], [3], [], [], [6], [], [8], [7, 9], [5, 10], [11], [4, 12], [13], [14, 0, 1, 2, 3, 4, 5, 6, 7, 8, 9, 10, 11, 12, 13, 14]]))
 (.seq (.seq (.region [oT 58 12,
  oM 59 (.bin .eql (.t 58) (.c (.int .i64 (-1099511627776))))] none)
 (.cond (.t 59) (.seq (.region [oM 4 (.mov (.c (.bool false))),
  oM 5 (.mov (.c (.int .i64 0)))] none)
 (.ret))
 (.skip)))
 (.region [oT 60 9,
  oT 61 12,
  oM 62 (.bin .add (.t 60) (.t 61)),
  oT 9 62] none)))))
 (.region [oM 63 (.bin .add (.t 38) (.c (.int .i64 1))),
  oT 38 63] none)))
-- pneumatic/bounds.Verify
def ic25 : IC := .seq (.region [oM 2 (.box (.t 0)),
  oM 4 (.mov (.c (.bool false))),
  oM 5 (.mov (.c (.int .i64 0)))] none)
 (.seq (.seq (.region [oL 13 2 2,
  oM 14 (.call (.c (.fn 30 [] [])) [(.t 13)]),
  oT 6 14] none)
 (.seq (.region [oT 15 6,
  oM 16 (.bin .neq (.t 15) (.c (.int .i64 0)))] none)
 (.cond (.t 16) (.seq (.region [oT 17 6,
  oM 4 (.mov (.c (.bool false))),
  oT 5 17] none)
 (.ret))
 (.skip))))
 (.seq (.seq (.region [oT 18 1,
  oM 19 (.len false (.t 18)),
  oM 20 (.bin .eql (.t 19) (.c (.int .i64 0)))] none)
 (.cond (.t 20) (.seq (.region [oM 4 (.mov (.c (.bool false))),
  oM 5 (.mov (.c (.int .i64 13)))] none)
 (.ret))
 (.skip)))
 (.seq (.seq (.region [oT 21 1,
  oM 22 (.len false (.t 21)),
  oM 23 (.mov (.c (.int .i64 0)))] none)
 (.block 0 (.loop b25_0)))
 (.seq (.region [oM 9 (.mov (.c (.int .i64 0)))] none)
 (.seq (.seq (.region [oT 36 1,
  oM 37 (.len false (.t 36)),
  oM 38 (.mov (.c (.int .i64 0)))] none)
 (.block 2 (.loop b25_2)))
 (.seq (.region [oT 64 9,
  oM 65 (.bin .lss (.t 64) (.c (.int .i64 0))),
  oT 4 65,
  oM 5 (.mov (.c (.int .i64 0)))] none)
 (.ret)))))))
theorem fn25 : env0.fn 25 = some ⟨66, ic25, [.t 4, .t 5]⟩ := by kernel_rfl
set_option maxHeartbeats 4000000 in
set_option maxRecDepth 20000 in
theorem verify25 {n : Nat} {D : Nat → Nat → Int} {c : List Nat} (hn : n ≤ 12) (hD : OkN D (n + 1)) (h0 : 0 < c.length) (hl : c.length ≤ 1000) (hr : ∀ i, i < c.length → gN c i < n + 1) (he : ∀ i, i < c.length → D (gN c i) (gN c ((i + 1) % c.length)) = -1) :
  PF Try.prog 25 [cB (n : Nat) (zca D (n + 1)), vsI (iL c)] (.tup [.bool true, .int .i64 0]) := by
 have p30 := zkh hn hD
 have hcl : ((iL c).map fun z => ([.int .i64 z] : List AV)).length = c.length := by rw [y04, zh4]
 refine zaw env0_ok fn25 [(0, .agg [.int .i64 (n : Nat), cM (zca D (n + 1))]), (1, vsI (iL c))] (by show 2 ≤ 66; decide) rfl fun w0 N0 => ?_
 unfold ic25
 refine zsr rfl (zd6 rfl rfl (za1 rfl (za1 rfl (onu (za7 (zsr rfl (zb3 rfl rfl rfl rfl ?_)))))))
 refine zat rfl rfl p30 noC ?_
 refine za1 rfl (onr rfl (za1 rfl (zdc rfl rfl rfl (onu (zbn rfl (zae (za5 (za7 (za7 ?_)))))))))
 refine za0 rfl (za1 rfl (zbl rfl rfl ?_))
 rw [hcl]
 refine zam rfl rfl rfl (fun h => ?_) fun h => ?_
 ·have : ((c.length : Nat) : Int) = 0 := by simpa using h
  omega
 refine onu (zbn rfl (zae (za5 (za7 (zsr rfl (za1 rfl (zbl rfl rfl (za1 rfl (onu (zac ?_))))))))))
 rw [hcl]
 refine zcc [] [(0, 0, [.int .i64 (n : Nat), cM (zca D (n + 1))])] [(1, vsI (iL c)), (2, .vptr [.int .i64 (n : Nat), cM (zca D (n + 1))]), (21, vsI (iL c)), (22, .int .i64 (c.length : Nat)), (23, .int .i64 ((0 : Nat) : Int))] rfl (.cons rfl rfl .nil) .nil
  (.cons rfl (.same rfl) (.cons rfl (.fptr rfl rfl) (.cons rfl (.same rfl) (.cons rfl (.same rfl) (.cons rfl (.same rfl) .nil))))) ?_
 refine zb8 (fun mm S => ∃ i, mm = c.length - i ∧ i ≤ c.length ∧ S = st 66 [(1, vsI (iL c)), (2, .vptr [.int .i64 (n : Nat), cM (zca D (n + 1))]), (21, vsI (iL c)), (22, .int .i64 (c.length : Nat)), (23, .int .i64 (i : Nat))] [] 0 1) c.length
  (za9 (.cons rfl (.cons rfl (.cons rfl (.cons rfl (.cons rfl .nil)))))) ⟨0, rfl, y0s _, rfl⟩ ?_
 rintro mm S ⟨i, rfl, hi, rfl⟩
 unfold b25_0
 refine zsr rfl ?_
 refine zam rfl rfl rfl (fun h1 => ?_) fun h1 => ?_
 ·have hlt : i < c.length := y0x.1 (of_decide_eq_true h1)
  have hg := iL_at hlt
  have hgr := hr i hlt
  generalize gN c i = x at *
  repeat (first | refine za7 ?_ | refine za0 rfl ?_ | refine za8 ?_ | refine za5 ?_ | refine zac ?_ | refine zae ?_ | refine zbz rfl ?_ | refine ze4 rfl ?_ | refine za1 rfl ?_ | refine zag rfl rfl ?_ | refine zaz rfl rfl rfl ?_ | refine zdc rfl rfl rfl ?_ | refine zb1 rfl rfl (by omega) (by assumption) rfl ?_)
  refine zam rfl rfl rfl (fun h2 => absurd (of_decide_eq_true h2) (by omega)) fun _ => ?_
  refine zb4 rfl rfl (onu (zbn rfl (zae (zbd (za5 (za0 rfl (zav (op := .add) rfl rfl rfl (za1 rfl (za8 ?_)))))))))
  rw [zab i (by omega)]
  exact zal (show c.length - (i + 1) < c.length - i by omega) (za9 (.cons rfl (.cons rfl (.cons rfl (.cons rfl (.cons rfl .nil)))))) ⟨i + 1, rfl, hlt, rfl⟩
 refine onu (za7 (zbn rfl (zbb (zad ?_))))
 refine zby ?_
 repeat (first | refine za7 ?_ | refine za0 rfl ?_ | refine za8 ?_ | refine za5 ?_ | refine zac ?_ | refine zb7 ?_ | refine za1 rfl ?_ | refine zbl rfl rfl ?_)
 rw [hcl]
 refine zb8 (fun mm S => ∃ i, mm = c.length - i ∧ i ≤ c.length ∧ S = st 66 [(1, vsI (iL c)), (2, .vptr [.int .i64 (n : Nat), cM (zca D (n + 1))]), (9, .int .i64 (-((i : Nat) : Int))), (36, vsI (iL c)), (37, .int .i64 (c.length : Nat)), (38, .int .i64 (i : Nat))] [] 0 1) c.length
  (za9 (.cons rfl (.cons rfl (.cons rfl (.cons rfl (.cons rfl (.cons rfl .nil))))))) ⟨0, rfl, y0s _, rfl⟩ ?_
 rintro mm S ⟨i, rfl, hi, rfl⟩
 unfold b25_2
 refine zsr rfl ?_
 refine zam rfl rfl rfl (fun h1 => ?_) fun h1 => ?_
 ·have hlt : i < c.length := y0x.1 (of_decide_eq_true h1)
  have hg := iL_at hlt
  have hm : (i + 1) % c.length < c.length := Nat.mod_lt _ h0
  have hg2 := iL_at hm
  have hgr := hr i hlt
  have hgr2 := hr _ hm
  have hei := he i hlt
  have hrem : Am.binOp .rem (.int .i64 ((i + 1 : Nat) : Int)) (.int .i64 (c.length : Nat)) = some (.int .i64 (((i + 1) % c.length : Nat) : Int)) := by
   show (if ((c.length : Nat) : Int) = 0 then none else some (AV.int .i64 (Int.tmod ((i + 1 : Nat) : Int) (c.length : Nat)))) = _
   rw [if_neg (by omega)]
   rfl
  generalize (i + 1) % c.length = j at *
  generalize gN c i = x at *
  generalize gN c j = y at *
  have hge := zgw (D := D) hgr
  have hgj := zlg (D := D) (i := x) hgr2
  rw [hei] at hgj
  unfold cM
  repeat (first | refine za7 ?_ | refine za0 rfl ?_ | refine za8 ?_ | refine za5 ?_ | refine zac ?_ | refine zae ?_ | refine zbz rfl ?_ | refine za1 rfl ?_ | refine zag rfl rfl ?_ | refine zaz rfl rfl rfl ?_ | refine zbl rfl rfl ?_ | refine zdl env0_ok rfl rfl rfl ?_ | refine zav (op := .add) rfl rfl rfl ?_ | refine zb1 rfl rfl (by omega) (by assumption) rfl ?_)
  rw [zab i (by omega)]
  rw [hcl]
  refine zav (op := .rem) rfl rfl hrem ?_
  repeat (first | refine za7 ?_ | refine za0 rfl ?_ | refine za8 ?_ | refine za5 ?_ | refine zbd ?_ | refine zae ?_ | refine zbn rfl ?_ | refine za1 rfl ?_ | refine zag rfl rfl ?_ | refine zav (op := .add) rfl rfl rfl ?_ | refine zdc rfl rfl rfl ?_ | refine zb1 rfl rfl (by omega) (by assumption) rfl ?_)
  rw [zab i (by omega), zd8 _ (by omega) (by omega), show -((i : Nat) : Int) + -1 = -((i + 1 : Nat) : Int) by omega]
  exact zal (show c.length - (i + 1) < c.length - i by omega) (za9 (.cons rfl (.cons rfl (.cons rfl (.cons rfl (.cons rfl (.cons rfl .nil))))))) ⟨i + 1, rfl, hlt, rfl⟩
 obtain rfl : i = c.length := by have := of_decide_eq_false h1; omega
 refine onu (za7 (zbn rfl (zbb (zad ?_))))
 refine zby ?_
 refine zb7 (za5 (zsr rfl (za1 rfl ?_)))
 refine zam rfl rfl rfl (fun _ => ?_) fun h2 => absurd (of_decide_eq_false h2) (by omega)
 refine za1 rfl (za1 rfl (onu (zau ?_)))
 exact zao ⟨.inr rfl, _, rfl, rfl⟩
def b24_2 : IC := .seq (.region [oM 39 (.bin .lss (.t 38) (.t 37))] none)
 (.seq (.cond (.t 39) (.skip)
 (.exit 2))
 (.seq (.block 3 (.seq (.region [oM 40 (.idxs 1 (.t 36) (.t 38)),
  oN 41 40,
  oT 11 41] none)
 (.seq (.region [oT 42 8,
  oT 43 11,
  oM 44 (.idxs 1 (.t 42) (.t 43)),
  oN 45 44,
  oM 46 (.bin .geq (.t 45) (.c (.int .i64 0))),
  oT 47 46,
  ⟨(some 48), .mov (.t 9), some (47, true)⟩,
  ⟨(some 49), .bin .lss (.t 48) (.c (.int .i64 0)), some (47, true)⟩,
  ⟨(some 50), .mov (.t 49), some (47, true)⟩,
  ⟨(some 51), .mov (.t 8), some (50, false)⟩,
  ⟨(some 52), .mov (.t 11), some (50, false)⟩,
  ⟨(some 53), .idxs 1 (.t 51) (.t 52), some (50, false)⟩,
  ⟨(some 54), .load none (.t 53), some (50, false)⟩,
  ⟨(some 55), .mov (.t 8), some (50, false)⟩,
  ⟨(some 56), .mov (.t 9), some (50, false)⟩,
  ⟨(some 57), .idxs 1 (.t 55) (.t 56), some (50, false)⟩,
  ⟨(some 58), .load none (.t 57), some (50, false)⟩,
  ⟨(some 59), .bin .lss (.t 54) (.t 58), some (50, false)⟩,
  ⟨(some 60), .pick (.t 50) (.c (.bool true)) (.t 59), some (47, true)⟩,
  oM 61 (.pick (.t 47) (.t 60) (.c (.bool false)))] (some [[], [], [0, 1], [2], [3], [4], [5], [6, 5], [7, 5, 5], [8], [8], [9, 10, 8], [11, 8], [8], [8], [13, 14, 8], [15, 8], [12, 16, 8], [8, 17, 5], [5, 18]]))
 (.cond (.t 61) (.region [oT 62 11,
  oT 9 62] none)
 (.skip)))))
 (.region [oM 63 (.bin .add (.t 38) (.c (.int .i64 1))),
  oT 38 63] none)))
def b24_0 : IC := .seq (.region [oM 28 (.bin .lss (.t 27) (.t 26))] none)
 (.seq (.cond (.t 28) (.skip)
 (.exit 0))
 (.seq (.block 1 (.seq (.region [oT 29 27,
  oT 7 29] none)
 (.seq (.region [oT 30 6,
  oT 31 7,
  oM 32 (.call (.c (.fn 34 [] [])) [(.t 30), (.t 31)]),
  oT 8 32] none)
 (.seq (.region [oM 9 (.mov (.c (.int .i64 (-1))))] none)
 (.seq (.seq (.region [oT 33 4,
  oT 34 7,
  oM 35 (.idxs 1 (.t 33) (.t 34)),
  oN 36 35,
  oM 37 (.len false (.t 36)),
  oM 38 (.mov (.c (.int .i64 0)))] none)
 (.block 2 (.loop b24_2)))
 (.seq (.seq (.region [oT 64 9,
  oM 65 (.bin .lss (.t 64) (.c (.int .i64 0)))] none)
 (.cond (.t 65) (.exit 1)
 (.skip)))
 (.seq (.region [oT 66 7,
  oM 67 (.bslice 1 1 [.int .i64 0] [(0, 1, (.t 66))]),
  oT 12 67] none)
 (.seq (.seq (.region [oT 68 9,
  oT 69 7,
  oM 70 (.bin .neq (.t 68) (.t 69))] none)
 (.cond (.t 70) (.seq (.region [oT 71 4,
  oT 72 9,
  oT 73 7,
  oT 74 8,
  oM 75 (.call (.c (.fn 47 [] [])) [(.t 71), (.t 72), (.t 73), (.t 74)]),
  oT 13 75] none)
 (.region [oT 76 12,
  oT 77 13,
  oT 78 13,
  oM 79 (.len false (.t 78)),
  oM 80 (.bin .sub (.t 79) (.c (.int .i64 1))),
  oM 81 (.slsl 1 (.t 77) none (some (.t 80)) none),
  oM 82 (.append 1 8 [.int .i64 0] (.t 76) (.t 81)),
  oT 12 82] none))
 (.skip)))
 (.seq (.region [oT 83 12,
  oT 2 83,
  oM 3 (.mov (.c (.int .i64 0)))] none)
 (.ret))))))))))
 (.region [oM 84 (.bin .add (.t 27) (.c (.int .i64 1))),
  oT 27 84] none)))
-- pneumatic/digraph.Cycle
def ic24 : IC := .seq (.region [oM 1 (.box (.t 0)),
  oM 2 (.mov (.c (.nils))),
  oM 3 (.mov (.c (.int .i64 0)))] none)
 (.seq (.region [oL 15 2 1,
  oM 16 (.call (.c (.fn 33 [] [])) [(.t 15), (.c (.nils))]),
  oT 14 16,
  oM 17 (.extract (.t 14) 0),
  oM 18 (.extract (.t 14) 1),
  oT 4 17,
  oT 5 18] none)
 (.seq (.seq (.region [oT 19 5,
  oM 20 (.bin .neq (.t 19) (.c (.int .i64 0)))] none)
 (.cond (.t 20) (.seq (.region [oT 21 5,
  oM 2 (.mov (.c (.nils))),
  oT 3 21] none)
 (.ret))
 (.skip)))
 (.seq (.region [oL 22 2 1,
  oM 23 (.call (.c (.fn 46 [] [])) [(.t 22)]),
  oM 24 (.call (.c (.fn 42 [] [])) [(.t 23)]),
  oT 6 24] none)
 (.seq (.seq (.region [oT 25 4,
  oM 26 (.len false (.t 25)),
  oM 27 (.mov (.c (.int .i64 0)))] none)
 (.block 0 (.loop b24_0)))
 (.seq (.region [oM 2 (.mov (.c (.nils))),
  oM 3 (.mov (.c (.int .i64 6)))] none)
 (.ret))))))
theorem fn24 : env0.fn 24 = some ⟨85, ic24, [.t 2, .t 3]⟩ := by kernel_rfl
set_option maxHeartbeats 8000000 in
theorem cycle21 (n : Int) (es : List (Int × Int)) (hn : zf9 n es = 0 → n ≤ 12) : PF Try.prog 24 [cG n es] (cycV n es) := by
 have p46 := znw n es [] (y0s _)
 refine zaw env0_ok fn24 [(0, .agg [.int .i64 n, .vs (cE es)])] (by show 1 ≤ 85; decide) rfl fun w0 N0 => ?_
 unfold ic24
 refine zsr rfl (zd6 rfl rfl (za1 rfl (za1 rfl (onu ?_))))
 refine zcc [] [(0, 0, [.int .i64 n, .vs (cE es)])] [(1, .vptr [.int .i64 n, .vs (cE es)])] rfl (.cons rfl rfl .nil) .nil (.cons rfl (.fptr rfl rfl) .nil) ?_
 repeat (first | refine za7 ?_ | refine za0 rfl ?_ | refine zb3 rfl rfl rfl rfl ?_)
 refine zat rfl rfl p46 noC ?_
 by_cases hg : zf9 n es = 0
 ·have hn := hn hg
  obtain ⟨m, E, rfl, rfl, hm, _, hE, hb⟩ := zjj hg
  rw [zkq ((zgs _ _).trans hg), ztb hg]
  have hb2 := fun u v h => (hb u v h).2
  have p47 := zk3 (m : Nat) (zbm E) (by unfold zbm; rw [y04]; omega)
  rw [zqp] at p47
  have p45 := zl2 m hm (rvE E) (by rw [zvw]; omega) (zf5 hb)
  have hlen : ((List.range m).map fun v => ([vN (nbr E m v)] : List AV)).length = m := by rw [y04, y0m]
  have h0 : dnx (fun v => ldB E m v v) m 0 = nxV (lpS E m) := by
   unfold dnx lpS nxV
   rw [y2w]
   try rfl
  repeat (first | refine za7 ?_ | refine za0 rfl ?_ | refine za8 ?_ | refine za5 ?_ | refine zae ?_ | refine zbn rfl ?_ | refine za1 rfl ?_ | refine zb3 rfl rfl rfl rfl ?_ | refine zb0 rfl rfl ?_ | refine zdc rfl rfl rfl ?_)
  refine zat rfl rfl p47 noC ?_
  refine zat rfl rfl p45 noC ?_
  repeat (first | refine za7 ?_ | refine za0 rfl ?_ | refine za8 ?_ | refine za5 ?_ | refine zac ?_ | refine za1 rfl ?_ | refine zbl rfl rfl ?_)
  refine zb8 (fun mm S => ∃ i, mm = m - i ∧ i ≤ m ∧ dnx (fun v => ldB E m v v) m i = nxV (lpS E m) ∧ S = st 85 [(4, cN E m), (6, cN (rvE E) m), (26, .int .i64 (m : Nat)), (27, .int .i64 (i : Nat))] [] 0 1) m
   (za9 (.cons rfl (.cons rfl (.cons (by exact congrArg (fun z : Nat => some (AV.int .i64 (z : Nat))) hlen) (.cons rfl .nil))))) ⟨0, rfl, y0s _, h0, rfl⟩ ?_
  rintro mm S ⟨i, rfl, hi, hd, rfl⟩
  unfold b24_0
  repeat (first | refine za7 ?_ | refine za0 rfl ?_)
  refine zam rfl rfl rfl (fun h3 => ?_) fun h3 => ?_
  ·have hlt : i < m := y0x.1 (of_decide_eq_true h3)
   have w1 : IntKind.wrap .i64 (((i : Nat) : Int) + 1) = ((i + 1 : Nat) : Int) := zab i (by omega)
   have p48 := far48 m (by omega) (rvE E) (zf5 hb) i hlt
   have hL := zek (es := rvE E) hlt fun u v h => (zf5 hb u v h).2
   have hll := ls_ld hb hlt
   have hW := lsW (zet (rvE E) m i m) (nbr E m i)
   have hcy : cycL E m i = i :: ((zhi (zet (rvE E) m i m) (nbr E m i)).toNat :: zd7 E m (zet (rvE E) m i m) (gI (zet (rvE E) m i m) (zhi (zet (rvE E) m i m) (nbr E m i)).toNat).toNat (zhi (zet (rvE E) m i m) (nbr E m i)).toNat).take (gI (zet (rvE E) m i m) (zhi (zet (rvE E) m i m) (nbr E m i)).toNat).toNat := rfl
   have hgN := zp7 (E := E) hlt
   have hin : ∀ w ∈ nbr E m i, w < m := fun w hw => hb2 _ _ ((zbx hb2).1 hw)
   have hnl := zl8 E m i
   have hbt : ∀ v, gI (zet (rvE E) m i m) v < m := zmn hL.len hL.down
   have p49 := fun x hx h0 => led49 m hm E hb x i hx hlt _ hL h0
   generalize zet (rvE E) m i m = back at *
   repeat (first | refine za7 ?_ | refine za0 rfl ?_ | refine za8 ?_ | refine za5 ?_ | refine zac ?_ | refine zae ?_ | refine zbz rfl ?_ | refine za1 rfl ?_)
   refine zat rfl rfl p48 noC ?_
   repeat (first | refine za7 ?_ | refine za0 rfl ?_ | refine za8 ?_ | refine za5 ?_ | refine zac ?_ | refine za1 rfl ?_ | refine zag rfl rfl ?_ | refine zbl rfl rfl ?_ | refine zb1 rfl rfl (by omega) (by assumption) rfl ?_)
   have hst := fun j => lsW back ((nbr E m i).take j)
   rw [zpe hlt] at hd
   generalize nbr E m i = l at *
   refine zb8 (fun mm S => ∃ j, mm = l.length - j ∧ j ≤ l.length ∧ S = st 85 [(4, cN E m), (6, cN (rvE E) m), (7, .int .i64 (i : Nat)), (8, vsI back), (9, .int .i64 (zhi back (l.take j))), (26, .int .i64 (m : Nat)), (27, .int .i64 (i : Nat)), (36, vN l), (37, .int .i64 ((l.map fun w => ([.int .i64 (w : Nat)] : List AV)).length : Nat)), (38, .int .i64 (j : Nat))] [] 0 1) l.length
    (za9 (.cons rfl (.cons rfl (.cons rfl (.cons rfl (.cons rfl (.cons rfl (.cons rfl (.cons rfl (.cons rfl (.cons rfl .nil))))))))))) ⟨0, rfl, y0s _, rfl⟩ ?_
   rintro mm S ⟨j, rfl, hj, rfl⟩
   unfold b24_2
   repeat (first | refine za7 ?_ | refine za0 rfl ?_)
   refine zam rfl rfl rfl (fun h4 => ?_) fun h4 => ?_
   ·have hlt2 : j < l.length := by
     have h5 : ((j : Nat) : Int) < (((l.map fun w => ([.int .i64 (w : Nat)] : List AV)).length : Nat) : Int) := of_decide_eq_true h4
     rw [y04] at h5
     exact y0x.1 h5
    have w2 : IntKind.wrap .i64 (((j : Nat) : Int) + 1) = ((j + 1 : Nat) : Int) := zab j (by omega)
    have hgv := zk8 hlt2
    have hym := hin l[j] (y0z hlt2)
    have hs := hst j
    have hts : zhi back (l.take (j + 1)) = lstF back (zhi back (l.take j)) l[j] := zf7 (lstF back) (-1) hlt2
    have hbm : 0 ≤ zhi back (l.take j) → (zhi back (l.take j)).toNat < m := fun h => hin _ (y1q (hs.some_ h).1)
    generalize zhi back (l.take j) = b at *
    generalize l[j] = y at *
    have hgy : (back.map fun z => ([.int .i64 z] : List AV))[((y : Nat) : Int).toNat]? = some [.int .i64 (gI back y)] := by rw [ze5 (by rw [hL.len]; exact hym), gI_at]
    unfold lstF at hts
    repeat (first | refine za7 ?_ | refine za0 rfl ?_ | refine za8 ?_ | refine za5 ?_ | refine zac ?_ | refine zae ?_ | refine zbz rfl ?_ | refine za1 rfl ?_ | refine zag rfl rfl ?_ | refine zdl env0_ok rfl rfl rfl ?_ | refine zb1 rfl rfl (by omega) (by assumption) rfl ?_)
    refine zam rfl rfl rfl (fun h5 => ?_) fun h5 => ?_
    ·have h5 : gI back y ≥ 0 := of_decide_eq_true h5
     repeat (first | refine ze4 rfl ?_ | refine za1 rfl ?_)
     refine zam rfl rfl rfl (fun h6 => ?_) fun h6 => ?_
     ·have h6 : b < 0 := of_decide_eq_true h6
      rw [if_pos ⟨h5, .inl h6⟩] at hts
      repeat (first | refine za0 rfl ?_ | refine za8 ?_ | refine za5 ?_ | refine zbd ?_ | refine zbz rfl ?_ | refine ze4 rfl ?_ | refine zgo rfl rfl ?_ | refine za1 rfl ?_ | refine zb9 rfl rfl ?_ | refine zav (op := .add) rfl rfl rfl ?_)
      rw [w2]
      exact zal (show l.length - (j + 1) < l.length - j by omega) (za9 (.cons rfl (.cons rfl (.cons rfl (.cons rfl (.cons rfl (.cons rfl (.cons rfl (.cons rfl (.cons rfl (.cons rfl .nil))))))))))) ⟨j + 1, rfl, hlt2, by rw [hts]⟩
     ·have h6 : ¬ b < 0 := of_decide_eq_false h6
      obtain ⟨b, rfl⟩ := y2h (show 0 ≤ b by omega)
      have hbm := hbm (y0y b)
      rw [y0t] at hbm hts
      have hgb : (back.map fun z => ([.int .i64 z] : List AV))[((b : Nat) : Int).toNat]? = some [.int .i64 (gI back b)] := by rw [ze5 (by rw [hL.len]; exact hbm), gI_at]
      repeat (first | refine ze4 rfl ?_ | refine za1 rfl ?_ | refine zag rfl rfl ?_ | refine zb1 rfl rfl (by omega) (by assumption) rfl ?_)
      refine zam rfl rfl rfl (fun h7 => ?_) fun h7 => ?_
      ·rw [if_pos ⟨h5, .inr (of_decide_eq_true h7)⟩] at hts
       repeat (first | refine za0 rfl ?_ | refine za8 ?_ | refine za5 ?_ | refine zbd ?_ | refine zbz rfl ?_ | refine ze4 rfl ?_ | refine za1 rfl ?_ | refine zb9 rfl rfl ?_ | refine zb4 rfl rfl ?_ | refine zav (op := .add) rfl rfl rfl ?_)
       rw [w2]
       exact zal (show l.length - (j + 1) < l.length - j by omega) (za9 (.cons rfl (.cons rfl (.cons rfl (.cons rfl (.cons rfl (.cons rfl (.cons rfl (.cons rfl (.cons rfl (.cons rfl .nil))))))))))) ⟨j + 1, rfl, hlt2, by rw [hts]⟩
      ·have h7 : ¬ gI back y < gI back b := of_decide_eq_false h7
       rw [if_neg fun h => h.2.elim h6 h7] at hts
       repeat (first | refine za0 rfl ?_ | refine za8 ?_ | refine za5 ?_ | refine zbd ?_ | refine zae ?_ | refine zbn rfl ?_ | refine ze4 rfl ?_ | refine za1 rfl ?_ | refine zb9 rfl rfl ?_ | refine zb4 rfl rfl ?_ | refine zav (op := .add) rfl rfl rfl ?_)
       rw [w2]
       exact zal (show l.length - (j + 1) < l.length - j by omega) (za9 (.cons rfl (.cons rfl (.cons rfl (.cons rfl (.cons rfl (.cons rfl (.cons rfl (.cons rfl (.cons rfl (.cons rfl .nil))))))))))) ⟨j + 1, rfl, hlt2, by rw [hts]⟩
    ·have h5 : ¬ gI back y ≥ 0 := of_decide_eq_false h5
     rw [if_neg fun h => h5 h.1] at hts
     repeat (first | refine za0 rfl ?_ | refine za8 ?_ | refine za5 ?_ | refine zbd ?_ | refine zae ?_ | refine zbn rfl ?_ | refine zgo rfl rfl ?_ | refine o_gt rfl ?_ | refine za1 rfl ?_ | refine zb4 rfl rfl ?_ | refine zav (op := .add) rfl rfl rfl ?_)
     rw [w2]
     exact zal (show l.length - (j + 1) < l.length - j by omega) (za9 (.cons rfl (.cons rfl (.cons rfl (.cons rfl (.cons rfl (.cons rfl (.cons rfl (.cons rfl (.cons rfl (.cons rfl .nil))))))))))) ⟨j + 1, rfl, hlt2, by rw [hts]⟩
   ·have hje : j = l.length := by
     have h5 : ¬ ((j : Nat) : Int) < (((l.map fun w => ([.int .i64 (w : Nat)] : List AV)).length : Nat) : Int) := of_decide_eq_false h4
     rw [y04] at h5
     omega
    subst hje
    rw [y1f]
    have hxm : 0 ≤ zhi back l → (zhi back l).toNat < m := fun h => hin _ (hW.some_ h).1
    generalize zhi back l = b at *
    repeat (first | refine za7 ?_ | refine za8 ?_ | refine za5 ?_ | refine zbn rfl ?_ | refine zbb ?_ | refine zad ?_)
    refine zby ?_
    repeat (first | refine za7 ?_ | refine za0 rfl ?_ | refine za5 ?_ | refine zb7 ?_ | refine za1 rfl ?_)
    refine zam rfl rfl rfl (fun h5 => ?_) fun h5 => ?_
    ·have h5 : b < 0 := of_decide_eq_true h5
     rw [hll.1 h5, if_neg Bool.false_ne_true] at hd
     repeat (first | refine za0 rfl ?_ | refine za8 ?_ | refine za5 ?_ | refine zbz rfl ?_ | refine zbb ?_ | refine zb7 ?_ | refine zad ?_ | refine za1 rfl ?_ | refine zav (op := .add) rfl rfl rfl ?_)
     rw [w1]
     exact zal (show m - (i + 1) < m - i by omega) (za9 (.cons rfl (.cons rfl (.cons rfl (.cons rfl .nil))))) ⟨i + 1, rfl, hlt, hd, rfl⟩
    ·have h5 : ¬ b < 0 := of_decide_eq_false h5
     obtain ⟨x, rfl⟩ := y2h (show 0 ≤ b by omega)
     have hxm := hxm (y0y x)
     obtain ⟨_, hx0⟩ := hW.some_ (y0y x)
     rw [y0t] at hxm hx0 hcy
     have hld : ldB E m i i = true := by
      cases hc : ldB E m i i with
      | true => rfl
      | false => exact absurd (hll.2 hc) h5
     rw [hld, if_pos rfl] at hd
     have hlp : lpS E m = some i := by
      unfold nxV at hd
      split at hd
      ·rename_i u e
       rw [e, Int.ofNat_inj.1 hd]
      ·omega
     have hV : cycN m E = .tup [vsI (iL (cycL E m i)), .int .i64 0] := by unfold cycN; rw [hlp]
     rw [hV, hcy]
     repeat (first | refine za7 ?_ | refine za0 rfl ?_ | refine za8 ?_ | refine za5 ?_ | refine zae ?_ | refine zbn rfl ?_ | refine za1 rfl ?_ | refine zbi rfl rfl ?_)
     refine zam rfl rfl rfl (fun h6 => ?_) fun h6 => ?_
     ·have h6 : ¬ x = i := fun e => (show ¬ ((x : Nat) : Int) = (i : Nat) by simpa using h6) (by rw [e])
      have p49 := p49 x hxm hx0
      have hbx := hbt x
      have hrl := zgh E m back (gI back x).toNat x
      have hpl : (iL (x :: zd7 E m back (gI back x).toNat x)).length = (gI back x).toNat + 1 := by rw [zh4, y0r, hrl]
      have htk : iL (i :: (x :: zd7 E m back (gI back x).toNat x).take (gI back x).toNat) = ((i : Nat) : Int) :: (iL (x :: zd7 E m back (gI back x).toNat x)).take (gI back x).toNat := by
       unfold iL
       rw [y16, List.map_take]
      rw [htk]
      generalize iL (x :: zd7 E m back (gI back x).toNat x) = path at *
      have w3 : IntKind.wrap .i64 ((((path.map fun z => ([.int .i64 z] : List AV)).length : Nat) : Int) - 1) = (((gI back x).toNat : Nat) : Int) := by
       rw [y04, hpl, zd8 _ (by omega) (by omega)]
       omega
      repeat (first | refine za7 ?_ | refine za0 rfl ?_ | refine za8 ?_ | refine za5 ?_ | refine zbz rfl ?_ | refine za1 rfl ?_)
      refine zat rfl rfl p49 noC ?_
      repeat (first | refine za0 rfl ?_ | refine za8 ?_ | refine za5 ?_ | refine za1 rfl ?_ | refine zbl rfl rfl ?_ | refine zav (op := .sub) rfl rfl rfl ?_)
      rw [w3]
      refine o_slvs rfl rfl (by rw [y04]; omega) (y0e.2 fun x hx => by obtain ⟨s, _, rfl⟩ := y0i.1 hx; rfl) ?_
      rw [← List.map_take]
      refine o_alit (q := path.take (gI back x).toNat) (by rw [y2g]; omega) rfl rfl (Nat.zero_lt_one) rfl (by decide) fun w hp' nx' ck' hW => ?_
      repeat (first | refine za7 ?_ | refine za0 rfl ?_ | refine za8 ?_ | refine za5 ?_ | refine zau ?_ | refine zak ?_ | refine zbf ?_ | refine za1 rfl ?_)
      refine zao ⟨.inr rfl, _, rfl, ?_⟩
      exact congrArg AV.tup (zf1 hW.view rfl)
     ·have h6 : x = i := Int.ofNat_inj.1 (by simpa using h6)
      subst h6
      rw [hL.zero]
      repeat (first | refine za7 ?_ | refine za0 rfl ?_ | refine za8 ?_ | refine za5 ?_ | refine zae ?_ | refine zbn rfl ?_ | refine zau ?_ | refine zak ?_ | refine zbf ?_ | refine za1 rfl ?_)
      refine zao ⟨.inr rfl, _, rfl, ?_⟩
      exact congrArg AV.tup (zf1 (zce [((x : Nat) : Int)] rfl rfl) rfl)
  ·have hie : i = m := by
    have h4 : ¬ ((i : Nat) : Int) < ((m : Nat) : Int) := of_decide_eq_false h3
    omega
   subst hie
   rw [ztg] at hd
   have hlp : lpS E i = none := by
    unfold nxV at hd
    split at hd
    ·omega
    ·assumption
   have hV : cycN i E = .tup [.vs [], .int .i64 6] := by unfold cycN; rw [hlp]
   rw [hV]
   repeat (first | refine za7 ?_ | refine za8 ?_ | refine za5 ?_ | refine zbn rfl ?_ | refine zbb ?_ | refine zad ?_)
   refine zby ?_
   repeat (first | refine za7 ?_ | refine za0 rfl ?_ | refine za8 ?_ | refine za5 ?_ | refine zau ?_ | refine zb7 ?_ | refine za1 rfl ?_)
   exact zao ⟨.inr rfl, _, rfl, rfl⟩
 ·have hg2 : ¬ zkp n es [] = 0 := by rw [zgs]; exact hg
  rw [zga hg2, cycV_err hg, zgs]
  repeat (first | refine za7 ?_ | refine za0 rfl ?_ | refine za8 ?_ | refine za5 ?_ | refine za1 rfl ?_ | refine zb0 rfl rfl ?_)
  refine zam rfl rfl rfl (fun h => ?_) fun h => absurd (by simpa using h) hg
  repeat (first | refine za7 ?_ | refine za0 rfl ?_ | refine za8 ?_ | refine za5 ?_ | refine zbz rfl ?_ | refine zau ?_ | refine zak ?_ | refine za1 rfl ?_)
  exact zao ⟨.inr rfl, _, rfl, rfl⟩
def clK (K : Nat) (G : Nat → Nat → Int) : Nat → Nat → Nat → Int
 | 0 => G
 | k + 1 => clG (clK K G k) K k K 0
theorem zik {k : Nat} {F G : Nat → Nat → Int} {a b : Nat} (h1 : F a k = G a k) (h2 : F k b = G k b) (h3 : F a b = G a b) : fwP k F a b = fwP k G a b := by
 unfold fwP
 rw [h1, h2, h3]
theorem zsz {K : Nat} {G D : Nat → Nat → Int} (h : ∀ a b, a < K → b < K → G a b = D a b) : ∀ k, k ≤ K → ∀ a b, a < K → b < K → clK K G k a b = fwK D k a b
 | 0, _, a, b, ha, hb => h a b ha hb
 | k + 1, hk, a, b, ha, hb => by
  have ih := zsz h k (by omega)
  show clG (clK K G k) K k K 0 a b = fwP k (fwK D k) a b
  unfold clG
  rw [if_pos (.inl ⟨ha, hb⟩)]
  exact zik (ih a k ha (by omega)) (ih k b (by omega) hb) (ih a b ha hb)
theorem zv7 {D : Nat → Nat → Int} {K a b : Nat} (ha : a < K) (hb : b < K) : ofG D K K 0 a b = D a b := by
 unfold ofG
 rw [if_pos (.inl ⟨ha, hb⟩)]
section
variable {E : List (Nat × Nat)} {m : Nat} {D : Nat → Nat → Int} (hD : BndE E m D) (hm : m ≤ 12)
include hD hm
end
-- pneumatic/pneumaticref11.Less
def ic49 : IC := .seq (.region [oM 4 (.mov (.c (.bool false)))] none)
 (.seq (.region [oT 5 0,
  oM 6 (.bin .neq (.t 5) (.c (.int .i64 (-1099511627776)))),
  oT 7 6,
  ⟨(some 8), .mov (.t 1), some (7, true)⟩,
  ⟨(some 9), .bin .eql (.t 8) (.c (.int .i64 (-1099511627776))), some (7, true)⟩,
  ⟨(some 10), .mov (.t 9), some (7, true)⟩,
  ⟨(some 11), .mov (.t 0), some (10, false)⟩,
  ⟨(some 12), .mov (.t 1), some (10, false)⟩,
  ⟨(some 13), .bin .lss (.t 11) (.t 12), some (10, false)⟩,
  ⟨(some 14), .pick (.t 10) (.c (.bool true)) (.t 13), some (7, true)⟩,
  oM 15 (.pick (.t 7) (.t 14) (.c (.bool false))),
  oT 4 15] none)
 (.ret))
theorem fn49 : env0.fn 49 = some ⟨16, ic49, [.t 4]⟩ := by kernel_rfl
def lssB (a b : Int) : Bool := a != nnB && (b == nnB || decide (a < b))
theorem less49 (a b : Int) : PF Try.prog 49 [.int .i64 a, .int .i64 b] (.bool (lssB a b)) := by
 refine zaw env0_ok fn49 [(0, .int .i64 a), (1, .int .i64 b)] (by show 2 ≤ 16; decide) rfl fun w0 N0 => ?_
 unfold ic49 lssB nnB
 refine zsr rfl (za1 rfl (onr rfl (za1 rfl ?_)))
 refine zam rfl rfl rfl (fun h1 => ?_) fun h1 => ?_
 all_goals
  rw [h1]
  repeat (first | refine za8 ?_ | refine za5 ?_ | refine zau ?_ | refine ze4 rfl ?_ | refine zgo rfl rfl ?_ | refine o_gt rfl ?_ | refine za1 rfl ?_ | refine zb4 rfl rfl ?_)
 ·refine zam rfl rfl rfl (fun h2 => ?_) fun h2 => ?_
  all_goals
   rw [h2]
   repeat (first | refine za8 ?_ | refine za5 ?_ | refine zau ?_ | refine ze4 rfl ?_ | refine zgo rfl rfl ?_ | refine za1 rfl ?_ | refine zb9 rfl rfl ?_)
  ·exact zao ⟨.inr rfl, _, rfl, rfl⟩
  ·refine zam rfl rfl rfl (fun h3 => ?_) fun h3 => ?_
   all_goals
    rw [h3]
    refine ze4 rfl (zb4 rfl rfl (zb9 rfl rfl (za1 rfl (onu (zau ?_)))))
    exact zao ⟨.inr rfl, _, rfl, rfl⟩
 ·exact zao ⟨.inr rfl, _, rfl, rfl⟩
-- pneumatic/pneumaticref11.lesser
def ic29 : IC := .seq (.region [oM 4 (.mov (.c (.int .i64 0)))] none)
 (.seq (.seq (.region [oT 5 0,
  oT 6 1,
  oM 7 (.call (.c (.fn 49 [] [])) [(.t 5), (.t 6)])] none)
 (.cond (.t 7) (.seq (.region [oT 8 0,
  oT 4 8] none)
 (.ret))
 (.skip)))
 (.seq (.region [oT 9 1,
  oT 4 9] none)
 (.ret)))
theorem fn29 : env0.fn 29 = some ⟨10, ic29, [.t 4]⟩ := by kernel_rfl
def zpu (a b : Int) : Int := if lssB a b = true then a else b
theorem lesser29 (a b : Int) : PF Try.prog 29 [.int .i64 a, .int .i64 b] (.int .i64 (zpu a b)) := by
 have p49 := less49 a b
 refine zaw env0_ok fn29 [(0, .int .i64 a), (1, .int .i64 b)] (by show 2 ≤ 10; decide) rfl fun w0 N0 => ?_
 unfold ic29 zpu
 refine zsr rfl (za1 rfl (onu (za7 (zsr rfl (za1 rfl (za1 rfl ?_))))))
 refine zat rfl rfl p49 noC ?_
 cases lssB a b with
 | true =>
  refine onu (zbz rfl (zsr rfl (za1 rfl (za1 rfl (onu (zau (zak ?_)))))))
  exact zao ⟨.inr rfl, _, rfl, rfl⟩
 | false =>
  refine onu (zbn rfl (zae (za5 (zsr rfl (za1 rfl (za1 rfl (onu (zau ?_))))))))
  exact zao ⟨.inr rfl, _, rfl, rfl⟩
def b28_0 : IC := .seq (.seq (.region [oT 8 4,
  oF 9 1 1,
  oN 10 9,
  oM 11 (.len false (.t 10)),
  oM 12 (.bin .lss (.t 8) (.t 11))] none)
 (.cond (.t 12) (.skip)
 (.exit 0)))
 (.seq (.block 1 (.region [oF 15 1 3,
  oN 16 15,
  oM 17 (.bslice 1 0 [] []),
  oF 18 1 1,
  oN 19 18,
  oT 20 4,
  oM 21 (.idxs 1 (.t 19) (.t 20)),
  oN 22 21,
  oM 23 (.append 1 8 [.int .i64 0] (.t 17) (.t 22)),
  oM 24 (.bslice 1 1 [.nils] [(0, 1, (.t 23))]),
  oM 25 (.append 1 24 [.nils] (.t 16) (.t 24)),
  oF 26 1 3,
  ⟨none, .store 1 (.t 26) (.t 25), none⟩] (some [[], [0], [], [], [3], [], [4, 5], [6], [2, 7], [8], [1, 9, 8], [0, 1, 2, 3, 4, 5, 6, 7, 8, 9, 10], [11, 10, 10, 0, 1, 2, 3, 4, 5, 6, 7, 8, 9, 10]])))
 (.region [oT 13 4,
  oM 14 (.bin .add (.t 13) (.c (.int .i64 1))),
  oT 4 14] none))
-- pneumatic/pneumaticref11.copied
def ic28 : IC := .seq (.region [oM 1 (.box (.t 0)),
  oM 2 (.alloc [.int .i64 0, .nils])] none)
 (.seq (.region [oF 5 0 1,
  oN 6 5,
  oM 7 (.build [.int .i64 0, .nils] [(0, 1, (.t 6))]),
  oM 3 (.alloc [.int .i64 0, .nils]),
  ⟨none, .store 2 (.t 3) (.t 7), none⟩] none)
 (.seq (.seq (.region [oM 4 (.mov (.c (.int .i64 0)))] none)
 (.block 0 (.loop b28_0)))
 (.seq (.region [oL 27 2 3,
  ⟨none, .store 2 (.t 2) (.t 27), none⟩] none)
 (.ret))))
theorem fn28 : env0.fn 28 = some ⟨28, ic28, [.cell 2 (some 2)]⟩ := by kernel_rfl
structure CpR (lo : Nat) (D : Nat → Nat → Int) (K i q s : Nat) (ids sps : Nat → Nat) (hp : List (Nat × Nat × AObj)) (nx : Nat) : Prop where
 top : Am.look q hp = some (s, .cells ((List.range i).map fun v => .ms (ids v) (sps v) 1 0 K none))
 cell : ∀ v, v < i → Am.look (ids v) hp = some (sps v, .cells ((ze0 D K v).map (AV.int .i64)))
 tpos : lo ≤ q ∧ q < nx
 pos : ∀ v, v < i → lo ≤ ids v ∧ ids v < nx ∧ ids v ≠ q
 inj : ∀ u v, u < i → v < i → ids u = ids v → u = v
section
variable {lo : Nat} {D : Nat → Nat → Int} {K i q s : Nat} {ids sps : Nat → Nat} {hp : List (Nat × Nat × AObj)} {nx : Nat}
theorem CpR.fresh (h : CpR lo D K i q s ids sps hp nx) (ck : Nat) (o : AObj) : CpR lo D K i q s ids sps ((nx, ck, o) :: hp) (nx + 1) :=
 ⟨by rw [za3, if_neg (by have := h.tpos; omega)]; exact h.top, fun v hv => by rw [za3, if_neg (by have := h.pos v hv; omega)]; exact h.cell v hv, by have := h.tpos; omega, fun v hv => by have := h.pos v hv; omega, h.inj⟩
theorem CpR.other (h : CpR lo D K i q s ids sps hp nx) {j : Nat} (hj : j < lo) (x : Nat × AObj) : CpR lo D K i q s ids sps (zbu j x hp) nx :=
 ⟨by rw [za4, if_neg (by have := h.tpos; omega)]; exact h.top, fun v hv => by rw [za4, if_neg (by have := h.pos v hv; omega)]; exact h.cell v hv, h.tpos, h.pos, h.inj⟩
theorem zvh {α : Type} (f : Nat → Nat → α) (ids sps : Nat → Nat) (i x y : Nat) : (List.range (i + 1)).map (fun v => f (upd ids i x v) (upd sps i y v)) = (List.range i).map (fun v => f (ids v) (sps v)) ++ [f x y] := by
 rw [y2x, y1u, List.map_singleton, zaf, zaf]
 congr 1
 refine y1x fun v hv => ?_
 have := y0j.1 hv
 rw [zaa _ _ (by omega), zaa _ _ (by omega)]
theorem CpR.add (h : CpR lo D K i q s ids sps hp nx) {x y : Nat} (hx : Am.look x hp = some (y, .cells ((ze0 D K i).map (AV.int .i64)))) (h1 : lo ≤ x ∧ x < nx ∧ x ≠ q) (h2 : ∀ v, v < i → ids v ≠ x) (s' : Nat) :
  CpR lo D K (i + 1) q s' (upd ids i x) (upd sps i y) (zbu q (s', .cells ((List.range i).map (fun v => AV.ms (ids v) (sps v) 1 0 K none) ++ [.ms x y 1 0 K none])) hp) nx := by
 refine ⟨by rw [za4, if_pos rfl, zvh fun a b => AV.ms a b 1 0 K none], fun v hv => ?_, h.tpos, fun v hv => ?_, fun u v hu hv e => ?_⟩
 ·rw [za4]
  by_cases e : v = i
  ·subst e
   rw [zaf, zaf, if_neg (fun e => h1.2.2 e.symm)]
   exact hx
  ·have := h.pos v (by omega)
   rw [zaa _ _ e, zaa _ _ e, if_neg (by omega)]
   exact h.cell v (by omega)
 ·by_cases e : v = i
  ·subst e
   rw [zaf]
   exact h1
  ·rw [zaa _ _ e]
   exact h.pos v (by omega)
 ·by_cases e1 : u = i
  ·by_cases e2 : v = i
   ·rw [e1, e2]
   ·subst e1
    rw [zaf, zaa _ _ e2] at e
    exact absurd e.symm (h2 v (by omega))
  ·by_cases e2 : v = i
   ·subst e2
    rw [zaf, zaa _ _ e1] at e
    exact absurd e (h2 u (by omega))
   ·rw [zaa _ _ e1, zaa _ _ e2] at e
    exact h.inj u v (by omega) (by omega) e
theorem CpR.start {x y : Nat} (hx : Am.look x hp = some (y, .cells ((ze0 D K 0).map (AV.int .i64)))) (hq : Am.look q hp = some (s, .cells [.ms x y 1 0 K none])) (h1 : lo ≤ x ∧ x < nx ∧ x ≠ q) (h2 : lo ≤ q ∧ q < nx) : CpR lo D K 1 q s (fun _ => x) (fun _ => y) hp nx :=
 ⟨hq, fun v hv => (show v = 0 by omega) ▸ hx, h2, fun _ _ => h1, fun u v hu hv _ => by omega⟩
end
structure CpI (B : HS) (s1 s2 s3 n : Nat) (D : Nat → Nat → Int) (i : Nat) (H : HS) : Prop where
 kp : ∀ j, j < B.next → Am.look j H.heap = Am.look j B.heap
 h1 : Am.look B.next H.heap = some (s1, .cells [.int .i64 (n : Nat), cM (zca D (n + 1))])
 h2 : Am.look (B.next + 1) H.heap = some (s2, .cells [.int .i64 0, .nils])
 nx : B.next + 3 ≤ H.next
 ok : (i = 0 ∧ Am.look (B.next + 2) H.heap = some (s3, .cells [.int .i64 (n : Nat), .nils])) ∨ ∃ q s ids sps, Am.look (B.next + 2) H.heap = some (s3, .cells [.int .i64 (n : Nat), .ms q s 1 0 i none]) ∧ CpR (B.next + 3) D (n + 1) i q s ids sps H.heap H.next
set_option maxHeartbeats 4000000 in
set_option maxRecDepth 20000 in
theorem copied28 {w0 : World} {N0 : Nat} {n : Nat} {D : Nat → Nat → Int} (hn : n ≤ 12) (B : HS) :
  FT Try.prog w0 N0 28 [cB (n : Nat) (zca D (n + 1))] B fun v H' => ∃ q s ids sps, v = .agg [.int .i64 (n : Nat), .ms q s 1 0 (n + 1) none] ∧ KpH B H' ∧ CpR B.next D (n + 1) (n + 1) q s ids sps H'.heap H'.next := by
 have hml := zge D (n + 1)
 refine zeh env0_ok fn28 [(0, .agg [.int .i64 (n : Nat), cM (zca D (n + 1))])] (by show 1 ≤ 28; decide) rfl ?_
 unfold ic28
 refine zsr rfl (zd6 rfl rfl (zcp (onr rfl (zai rfl ?_))))
 refine zc8 (sp := B.clk) (cs := [.int .i64 (n : Nat), cM (zca D (n + 1))]) rfl (by rw [za3, if_neg (by omega)]; exact zah) (by omega) rfl ?_
 refine zft rfl rfl (zcp ?_)
 refine zci (vs := [.int .i64 (n : Nat), .nils]) rfl rfl rfl rfl zah rfl rfl ?_
 rw [zhn]
 refine onu (za7 (zsr rfl (za1 rfl (onu (zac ?_)))))
 refine zb8 (fun mm S => ∃ i H, mm = n + 1 - i ∧ i ≤ n + 1 ∧ CpI B B.clk (B.clk + 1) (B.clk + 1 + 1) n D i H ∧ S = st 28 [(1, .mptr B.next B.clk 0), (2, .mptr (B.next + 1) (B.clk + 1) 0), (3, .mptr (B.next + 1 + 1) (B.clk + 1 + 1) 0), (4, .int .i64 (i : Nat))] H.heap H.next H.clk) (n + 1)
  (za9 (.cons rfl (.cons rfl (.cons rfl (.cons rfl .nil))))) ⟨0, ⟨_, _, _⟩, rfl, y0s _, ⟨fun j hj => ?_, ?_, ?_, y0c _, .inl ⟨rfl, ?_⟩⟩, rfl⟩ ?_
 ·dsimp only
  rw [za3, if_neg (by omega), za3, if_neg (by omega), za3, if_neg (by omega)]
 ·dsimp only
  rw [za3, if_neg (by omega), za3, if_neg (by omega)]
  exact zah
 ·dsimp only
  rw [za3, if_neg (by omega)]
  exact zah
 ·exact zah
 rintro mm S ⟨i, ⟨hp, nx, ck⟩, rfl, hi, hI, rfl⟩
 have hnx : B.next + 3 ≤ nx := hI.nx
 have hI1 : Am.look B.next hp = _ := hI.h1
 have hI2 : Am.look (B.next + 1) hp = _ := hI.h2
 have hkp : ∀ j, j < B.next → Am.look j hp = Am.look j B.heap := hI.kp
 have hok : (i = 0 ∧ Am.look (B.next + 2) hp = _) ∨ ∃ q s ids sps, Am.look (B.next + 2) hp = _ ∧ CpR (B.next + 3) D (n + 1) i q s ids sps hp nx := hI.ok
 clear hI
 dsimp only
 unfold b28_0
 refine za7 (zsr rfl (za1 rfl (zai rfl ?_)))
 refine zc8 (sp := B.clk) (cs := [.int .i64 (n : Nat), cM (zca D (n + 1))]) rfl hI1 (by omega) rfl ?_
 unfold cM
 refine zbl rfl rfl ?_
 rw [hml]
 refine zam rfl rfl rfl (fun h1 => ?_) fun h1 => ?_
 ·have hlt : i < n + 1 := y0x.1 (of_decide_eq_true h1)
  have hge := zgw (D := D) hlt
  have hrl := zff D (n + 1) i
  refine onu (zbz rfl (zae (za5 (za7 (zac ?_)))))
  have ez : ∀ o : Nat, 0 + ((o : Nat) : Int).toNat * 1 = o := fun o => by simp
  have hld : ∀ x : Nat, (x = B.next ∨ x = B.next + 2) → (fun i => Nat.beq i B.next || Nat.beq i (B.next + 2)) x = true := fun x hx => by
   show (Nat.beq x B.next || Nat.beq x (B.next + 2)) = true
   rcases hx with rfl | rfl
   ·rw [y2a, Bool.true_or]
   ·rw [y2a, Bool.or_true]
  have hsd : ∀ x : Nat, B.next + 3 ≤ x → (fun i => !(Nat.beq i B.next || Nat.beq i (B.next + 2))) x = true := fun x hx => by
   have b1 : Nat.beq x B.next = false := by
    cases hb : Nat.beq x B.next with
    | false => rfl
    | true => have := y0o hb; omega
   have b2 : Nat.beq x (B.next + 2) = false := by
    cases hb : Nat.beq x (B.next + 2) with
    | false => rfl
    | true => have := y0o hb; omega
   show (!(Nat.beq x B.next || Nat.beq x (B.next + 2))) = true
   rw [b1, b2]
   rfl
  refine z_cut env0_ok 11 [] (fun x hx => by cases hx) (fun _ => false) (fun i => Nat.beq i B.next || Nat.beq i (B.next + 2)) (fun i => !(Nat.beq i B.next || Nat.beq i (B.next + 2))) (fun i h1 h2 => by rw [h1] at h2; cases h2) rfl rfl rfl rfl ?_
  show Om _ _ _ _ _ [_, _, _, _, _, _, _, _, _, _, _] _ _ _
  have hfl := zhg (ze0 D (n + 1) i)
  have hce : ((ze0 D (n + 1) i).map fun z => ([.int .i64 z] : List AV)).flatten.all AV.isCell = true := by
   rw [← hfl]
   exact y0e.2 fun x hx => by obtain ⟨z, _, rfl⟩ := y0i.1 hx; rfl
  have hes : ∀ (l : List (Nat × AV)) (hp : List (Nat × Nat × AObj)) (nx ck : Nat), (st 28 l hp nx ck []).elems 1 (.vs ((ze0 D (n + 1) i).map fun z => ([.int .i64 z] : List AV))) = some ((ze0 D (n + 1) i).map fun z => ([.int .i64 z] : List AV)) := fun l hp nx ck => zpg fun x hx => by obtain ⟨z, _, rfl⟩ := y0i.1 hx; rfl
  rcases hok with ⟨rfl, h3⟩ | ⟨q, s, ids, sps, h3, hC⟩
  ·refine zai rfl ?_
   refine zap (id := B.next + 2) (sp := B.clk + 1 + 1) (off := 0 + 1) rfl h3 (by omega) rfl ?_ (zoa rfl (hld _ (.inr rfl)))
   refine zbi rfl rfl ?_ rfl
   refine zai rfl ?_
   refine zap (id := B.next) (sp := B.clk) (off := 0 + 1) rfl (by rw [za3, if_neg (by omega)]; exact hI1) (by omega) rfl ?_ (zoa rfl (hld _ (.inl rfl)))
   refine za1 rfl ?_
   unfold cM
   refine zb1 rfl rfl (y0y _) hge rfl ?_
   refine zag rfl rfl ?_ (vpOk rfl)
   refine zh7 _ rfl rfl (hes _ _ _ _) (by rw [hrl]; omega) hce (by decide) zah (by rw [hrl]; omega) ?_ (apOk rfl (hsd _ hnx))
   rw [hrl, ← hfl]
   refine zbi rfl rfl ?_ rfl
   refine zq0 (v := .ms (nx + 1 + 1 + 1) (ck + 1 + 1 + 1) 1 0 1 none) (hp' := (nx + 1 + 1 + 1, ck + 1 + 1 + 1, .cells [.ms (nx + 1) (ck + 1) 1 0 (n + 1) none]) :: (nx + 1 + 1, ck + 1 + 1, .cells [.ms (nx + 1) (ck + 1) 1 0 (n + 1) none]) :: (nx + 1, ck + 1, .cells ((ze0 D (n + 1) 0).map (AV.int .i64))) :: (nx, ck, .cells []) :: hp) (nx' := nx + 1 + 1 + 1 + 1) (ck' := ck + 1 + 1 + 1 + 1) rfl rfl (zcv (xs := [[.ms (nx + 1) (ck + 1) 1 0 (n + 1) none]]) (ys := []) zah rfl fun x hx => by obtain rfl := y0f.1 hx; rfl) rfl ?_ (zrg rfl)
   refine za8 (zao ⟨rfl, fun rd => ?_⟩)
   refine AnyF.one 11 rfl (zjc (i := 11) rfl rfl (zkn rfl) ?_)
   refine AnyF.one 12 rfl (zlv (i := 12) rfl (zgr (id := B.next + 1 + 1) (sp := B.clk + 1 + 1) (off := 0 + 1) rfl rfl rfl rfl (by rw [za3, if_neg (by omega), za3, if_neg (by omega), za3, if_neg (by omega), za3, if_neg (by omega)]; exact h3) rfl rfl) ?_)
   refine AnyF.fin rfl (Um.ok (zbd (za5 ?_)))
   refine za0 rfl (za1 rfl (zav (op := .add) rfl rfl rfl (za1 rfl (za8 ?_))))
   generalize hg : zbu (B.next + 1 + 1) _ _ = hp2
   refine zal (show n + 1 - (0 + 1) < n + 1 - 0 by omega) (za9 (.cons rfl (.cons rfl (.cons rfl (.cons rfl .nil))))) ⟨0 + 1, ⟨_, _, _⟩, rfl, hlt, ⟨fun j hj => ?_, ?_, ?_, ?_, .inr ⟨nx + 1 + 1 + 1, ck + 1 + 1 + 1, fun _ => nx + 1, fun _ => ck + 1, ?_, hg ▸ CpR.other (CpR.start ?_ zah ?_ ?_) (by omega) _⟩⟩, rfl⟩
   ·show Am.look _ hp2 = _
    rw [← hg, za4, if_neg (by omega), za3, if_neg (by omega), za3, if_neg (by omega), za3, if_neg (by omega), za3, if_neg (by omega)]
    exact hkp j hj
   ·show Am.look _ hp2 = _
    rw [← hg, za4, if_neg (by omega), za3, if_neg (by omega), za3, if_neg (by omega), za3, if_neg (by omega), za3, if_neg (by omega)]
    exact hI1
   ·show Am.look _ hp2 = _
    rw [← hg, za4, if_neg (by omega), za3, if_neg (by omega), za3, if_neg (by omega), za3, if_neg (by omega), za3, if_neg (by omega)]
    exact hI2
   ·dsimp only
    omega
   ·show Am.look _ hp2 = _
    rw [← hg, za4, if_pos rfl]
    rfl
   ·rw [za3, if_neg (by omega), za3, if_neg (by omega)]
    exact zah
   ·dsimp only
    omega
   ·dsimp only
    omega
  ·have hrl2 : ((List.range i).map fun v => AV.ms (ids v) (sps v) 1 0 (n + 1) none).length = i := by rw [y04, y0m]
   have hC3 := ((hC.fresh ck (.cells [])).fresh (ck + 1) (.cells ((ze0 D (n + 1) i).map (AV.int .i64)))).fresh (ck + 1 + 1) (.cells [.ms (nx + 1) (ck + 1) 1 0 (n + 1) none])
   have hqp := hC.tpos
   refine zai rfl ?_
   refine zap (id := B.next + 2) (sp := B.clk + 1 + 1) (off := 0 + 1) rfl h3 (by omega) rfl ?_ (zoa rfl (hld _ (.inr rfl)))
   refine zbi rfl rfl ?_ rfl
   refine zai rfl ?_
   refine zap (id := B.next) (sp := B.clk) (off := 0 + 1) rfl (by rw [za3, if_neg (by omega)]; exact hI1) (by omega) rfl ?_ (zoa rfl (hld _ (.inl rfl)))
   refine za1 rfl ?_
   unfold cM
   refine zb1 rfl rfl (y0y _) hge rfl ?_
   refine zag rfl rfl ?_ (vpOk rfl)
   refine zh7 _ rfl rfl (hes _ _ _ _) (by rw [hrl]; omega) hce (by decide) zah (by rw [hrl]; omega) ?_ (apOk rfl (hsd _ hnx))
   rw [hrl, ← hfl]
   refine zbi rfl rfl ?_ rfl
   refine zdq [[.ms (nx + 1) (ck + 1) 1 0 (n + 1) none]] (id := q) (sp := s) (len := i) rfl rfl (zcv (xs := [[.ms (nx + 1) (ck + 1) 1 0 (n + 1) none]]) (ys := []) zah rfl fun x hx => by obtain rfl := y0f.1 hx; rfl) (y24 0) rfl (by decide) hC3.top (by rw [hrl2, Nat.mul_one]) (by show i + 1 ≤ 1048576; omega) ?_ (apOk rfl (hsd _ hqp.1))
   refine za8 (zao ⟨rfl, fun rd => ?_⟩)
   refine AnyF.one 11 rfl (zjc (i := 11) rfl rfl (zkn rfl) ?_)
   refine AnyF.one 12 rfl (zlv (i := 12) rfl (zgr (id := B.next + 1 + 1) (sp := B.clk + 1 + 1) (off := 0 + 1) rfl rfl rfl rfl (by rw [za4, if_neg (by omega), za3, if_neg (by omega), za3, if_neg (by omega), za3, if_neg (by omega)]; exact h3) rfl rfl) ?_)
   refine AnyF.fin rfl (Um.ok (zbd (za5 ?_)))
   refine za0 rfl (za1 rfl (zav (op := .add) rfl rfl rfl (za1 rfl (za8 ?_))))
   rw [zab i (by omega)]
   generalize hg : zbu (B.next + 1 + 1) _ _ = hp2
   refine zal (show n + 1 - (i + 1) < n + 1 - i by omega) (za9 (.cons rfl (.cons rfl (.cons rfl (.cons rfl .nil))))) ⟨i + 1, ⟨_, _, _⟩, rfl, hlt, ⟨fun j hj => ?_, ?_, ?_, ?_, .inr ⟨q, ck + 1 + 1 + 1, upd ids i (nx + 1), upd sps i (ck + 1), ?_, hg ▸ CpR.other (CpR.add hC3 ?_ ?_ (fun v hv => ?_) _) (by omega) _⟩⟩, rfl⟩
   ·show Am.look _ hp2 = _
    rw [← hg, za4, if_neg (by omega), za4, if_neg (by omega), za3, if_neg (by omega), za3, if_neg (by omega), za3, if_neg (by omega)]
    exact hkp j hj
   ·show Am.look _ hp2 = _
    rw [← hg, za4, if_neg (by omega), za4, if_neg (by omega), za3, if_neg (by omega), za3, if_neg (by omega), za3, if_neg (by omega)]
    exact hI1
   ·show Am.look _ hp2 = _
    rw [← hg, za4, if_neg (by omega), za4, if_neg (by omega), za3, if_neg (by omega), za3, if_neg (by omega), za3, if_neg (by omega)]
    exact hI2
   ·dsimp only
    omega
   ·show Am.look _ hp2 = _
    rw [← hg, za4, if_pos rfl]
    rfl
   ·rw [za3, if_neg (by omega)]
    exact zah
   ·omega
   ·have := hC.pos v hv
    omega
 ·refine onu (zbn rfl (zbb (zad ?_)))
  refine zby ?_
  obtain rfl : i = n + 1 := by
   have := of_decide_eq_false h1
   omega
  rcases hok with ⟨h0, _⟩ | ⟨q, s, ids, sps, h3, hC⟩
  ·omega
  refine zb7 (za5 (zsr rfl ?_))
  refine zhk (id := B.next + 2) (sp := B.clk + 1 + 1) (off := 0) rfl h3 (by omega) rfl rfl ?_
  refine zci (id := B.next + 1) (sp := B.clk + 1) (off := 0) (vs := [.int .i64 (n : Nat), .ms q s 1 0 (n + 1) none]) rfl rfl rfl rfl hI2 rfl rfl ?_
  refine onu (zau ?_)
  generalize hg : zbu (B.next + 1) _ _ = hp2
  refine zao ⟨.inr rfl, _, zvm (zmi 2) (zhb (id := B.next + 1) (sp := B.clk + 1) (off := 0) (cs := [.int .i64 (n : Nat), .ms q s 1 0 (n + 1) none]) ?_ (by show B.next + 1 < nx; omega) rfl), q, s, ids, sps, rfl, ⟨?_, fun j hj => ?_⟩, ?_⟩
  ·show Am.look _ hp2 = _
   rw [← hg, za4, if_pos rfl]
   rfl
  ·show B.next ≤ nx
   omega
  ·show Am.look j hp2 = _
   rw [← hg, za4, if_neg (by omega)]
   exact hkp j hj
  ·have h := hC.other (j := B.next + 1) (by omega) (B.clk + 1, .cells (setAt 0 [AV.int .i64 0, AV.nils] [.int .i64 (n : Nat), .ms q s 1 0 (n + 1) none]))
   rw [show zbu (B.next + 1) _ hp = hp2 from hg] at h
   have t := h.tpos
   exact ⟨h.top, h.cell, ⟨by omega, t.2⟩, fun v hv => ⟨by have := h.pos v hv; omega, (h.pos v hv).2⟩, h.inj⟩
theorem zn1 (D : Nat → Nat → Int) (K i j : Nat) (y : Int) : ((ze0 D K i).map (AV.int .i64)).set j (.int .i64 y) = (ze0 (upG D i j y) K i).map (AV.int .i64) := by
 unfold ze0
 rw [y1v, y1v]
 refine y2t (by simp) fun p h1 h2 => ?_
 rw [List.getElem_set, y2f, y2f, List.getElem_range]
 show _ = AV.int .i64 (upG D i j y i p)
 unfold upG
 by_cases e : j = p
 ·rw [if_pos e, if_pos ⟨rfl, e.symm⟩]
 ·rw [if_neg e, if_neg fun h => e h.2.symm]
  rfl
theorem zlh (D : Nat → Nat → Int) (K i j v : Nat) (y : Int) (h : v ≠ i) : ze0 (upG D i j y) K v = ze0 D K v := by
 unfold ze0
 refine y1x fun p _ => ?_
 unfold upG
 rw [if_neg fun e => h e.1]
section
variable {lo : Nat} {D : Nat → Nat → Int} {K i q s : Nat} {ids sps : Nat → Nat} {hp : List (Nat × Nat × AObj)} {nx : Nat}
theorem CpR.rnF (h : CpR lo D K K q s ids sps hp nx) (nz : Nat → Bool) : RnF hp (fzJ K nz (ze0 D K) ids sps) := zq9 fun x hx => by
 obtain ⟨u, hu, rfl⟩ := y0i.1 hx
 obtain ⟨h1, _⟩ := y13.1 hu
 exact ⟨h.cell u (y0j.1 h1), zc4 _⟩
theorem CpR.fzl (h : CpR lo D K K q s ids sps hp nx) (nz : Nat → Bool) {v : Nat} (hv : v < K) (hz : nz v = true) : Am.fzl (ids v) (sps v) (fzJ K nz (ze0 D K) ids sps) = some ((ze0 D K v).map (AV.int .i64)) := by
 refine zpm (y0i.2 ⟨v, y13.2 ⟨y0j.2 hv, hz⟩, rfl⟩) fun x hx e => ?_
 obtain ⟨u, hu, rfl⟩ := y0i.1 hx
 obtain ⟨h1, _⟩ := y13.1 hu
 rw [h.inj u v (y0j.1 h1) hv e]
theorem CpR.memN (h : CpR lo D K K q s ids sps hp nx) (nz : Nat → Bool) {x : Nat} (hx : ∀ v, v < K → nz v = true → ids v ≠ x) : memN x ((fzJ K nz (ze0 D K) ids sps).map (·.1)) = false := by
 have _ := h.tpos
 cases hb : Am.memN x ((fzJ K nz (ze0 D K) ids sps).map (·.1)) with
 | false => rfl
 | true =>
  obtain ⟨y, hy, e⟩ := y0i.1 (zfe.1 hb)
  obtain ⟨u, hu, rfl⟩ := y0i.1 hy
  obtain ⟨h1, h2⟩ := y13.1 hu
  exact absurd e (hx u (y0j.1 h1) h2)
end
def wrow (D : Nat → Nat → Int) (K i v : Nat) : AV := if v = i then .ms 1 0 1 0 K none else vsI (ze0 D K v)
-- pneumatic/pneumaticref11.With
def ic9 : IC := .seq (.region [oM 4 (.box (.t 0)),
  oM 8 (.alloc [.int .i64 0, .nils])] none)
 (.seq (.region [oL 10 2 4,
  oM 11 (.call (.c (.fn 28 [] [])) [(.t 10)]),
  oM 9 (.alloc [.int .i64 0, .nils]),
  ⟨none, .store 2 (.t 9) (.t 11), none⟩] none)
 (.seq (.region [oF 12 1 9,
  oN 13 12,
  oT 14 1,
  oM 15 (.idxs 1 (.t 13) (.t 14)),
  oN 16 15,
  oT 17 2,
  oF 18 1 9,
  oN 19 18,
  oT 20 1,
  oM 21 (.idxs 1 (.t 19) (.t 20)),
  oN 22 21,
  oT 23 2,
  oM 24 (.idxs 1 (.t 22) (.t 23)),
  oN 25 24,
  oT 26 3,
  oM 27 (.call (.c (.fn 29 [] [])) [(.t 25), (.t 26)]),
  oM 28 (.idxs 1 (.t 16) (.t 17)),
  ⟨none, .store 1 (.t 28) (.t 27), none⟩] (some [[], [0], [], [1, 2], [3], [], [], [6], [], [7, 8], [9], [], [10, 11], [12], [], [13, 14], [4, 5, 0, 1, 2, 3, 4, 5, 6, 7, 8, 9, 10, 11, 12, 13, 14, 15], [16, 15, 15, 0, 1, 2, 3, 4, 5, 6, 7, 8, 9, 10, 11, 12, 13, 14, 15]]))
 (.seq (.region [oL 29 2 9,
  ⟨none, .store 2 (.t 8) (.t 29), none⟩] none)
 (.ret))))
theorem fn9 : env0.fn 9 = some ⟨30, ic9, [.cell 8 (some 2)]⟩ := by kernel_rfl
set_option maxHeartbeats 4000000 in
set_option maxRecDepth 20000 in
theorem with9 {n i j : Nat} {D : Nat → Nat → Int} (x : Int) (hn : n ≤ 12) (hi : i < n + 1) (hj : j < n + 1) :
  PF Try.prog 9 [cB (n : Nat) (zca D (n + 1)), .int .i64 (i : Nat), .int .i64 (j : Nat), .int .i64 x] (cB (n : Nat) (zca (upG D i j (zpu (D i j) x)) (n + 1))) := by
 have p29 := lesser29 (D i j) x
 refine zaw env0_ok fn9 [(0, .agg [.int .i64 (n : Nat), cM (zca D (n + 1))]), (1, .int .i64 (i : Nat)), (2, .int .i64 (j : Nat)), (3, .int .i64 x)] (by show 4 ≤ 30; decide) rfl fun w0 N0 => ?_
 unfold ic9
 refine zsr rfl (zd6 rfl rfl (zcp (onr rfl (zb3 rfl rfl rfl rfl ?_))))
 refine zry _ rfl rfl (zi8 (copied28 hn ⟨_, _, _⟩)) (fun _ _ _ _ hm => absurd hm y0h) fun v H2 hF => ?_
 obtain ⟨q, s, ids, sps, rfl, ⟨hk1, hk2⟩, hC⟩ := hF
 obtain ⟨hp, nx, ck⟩ := H2
 have hk1 : 2 ≤ nx := hk1
 have hk3 : Am.look 1 hp = some (1, .cells [.int .i64 0, .nils]) := (hk2 1 (by show 1 < 2; decide)).trans rfl
 have hC : CpR 2 D (n + 1) (n + 1) q s ids sps hp nx := hC
 clear hk2
 dsimp only
 have hC2 := hC.fresh ck (.cells [.int .i64 (n : Nat), .ms q s 1 0 (n + 1) none])
 have hqp := hC.tpos
 have hip := hC.pos i hi
 refine zcp ?_
 refine zci (vs := [.int .i64 (n : Nat), .ms q s 1 0 (n + 1) none]) rfl rfl rfl rfl zah rfl rfl ?_
 rw [zhn]
 refine onu ?_
 refine zcc [(some (q, s), (List.range (n + 1)).map (wrow D (n + 1) i)), (some (ids i, sps i), (ze0 D (n + 1) i).map (AV.int .i64)), (some (1, 1), [.int .i64 0, .nils]), (some (nx, ck), [.int .i64 (n : Nat), .ms 0 0 1 0 (n + 1) none])]
  (fzJ (n + 1) (fun v => decide (v ≠ i)) (ze0 D (n + 1)) ids sps) [(8, .mptr 2 0 0), (9, .mptr 3 0 0), (1, .int .i64 (i : Nat)), (2, .int .i64 (j : Nat)), (3, .int .i64 x)] ?_ (hC2.rnF _)
  (.cons hC2.top (zq8 fun v hv => ?_) (.cons (hC2.cell i hi) (.keep (zc4 _)) (.cons (by rw [za3, if_neg (by omega)]; exact hk3) (.keep rfl) (.cons zah (.cons (.same rfl) (.cons (.ms rfl) .nil)) .nil)))) (.cons rfl (.mptr rfl) (.cons rfl (.mptr rfl) (.cons rfl (.same rfl) (.cons rfl (.same rfl) (.cons rfl (.same rfl) .nil))))) ?_
 ·have m0 : ∀ y, (∀ v, v < n + 1 → v ≠ i → ids v ≠ y) → memN y ((fzJ (n + 1) (fun v => decide (v ≠ i)) (ze0 D (n + 1)) ids sps).map (·.1)) = false := fun y hy => hC2.memN _ fun v hv hz => hy v hv (of_decide_eq_true hz)
  have mq := m0 q fun v hv _ => by have := hC.pos v hv; omega
  have mi := m0 (ids i) fun v hv hne e => hne (hC.inj v i hv hi e)
  have m1 := m0 1 fun v hv _ => by have := hC.pos v hv; omega
  have mn := m0 nx fun v hv _ => by have := hC.pos v hv; omega
  show (!memN q _ && (!memN (ids i) (q :: _) && (!memN 1 (ids i :: q :: _) && (!memN nx (1 :: ids i :: q :: _) && true)))) = true
  rw [mq, zeb (by omega) mi, zeb (by omega) (zeb (by omega) m1), zeb (by omega) (zeb (by omega) (zeb (by omega) mn))]
  rfl
 ·have hv := y0j.1 hv
  unfold wrow
  by_cases e : v = i
  ·subst e
   rw [if_pos rfl]
   exact .ms rfl
  ·rw [if_neg e]
   exact .fms0 (hC2.fzl (fun v => decide (v ≠ i)) hv (decide_eq_true e)) (zff D (n + 1) v) (fun x hx => by obtain ⟨z, _, rfl⟩ := y0i.1 hx; rfl) (zhg _)
 clear hC hC2 hk3 hqp hip hk1
 have ez : ∀ o : Nat, 0 + ((o : Nat) : Int).toNat * 1 = o := fun o => by simp
 have gi : ((List.range (n + 1)).map (wrow D (n + 1) i))[i]? = some (.ms 1 0 1 0 (n + 1) none) := by
  rw [y0d, y1c hi]
  show some (wrow D (n + 1) i i) = _
  unfold wrow
  rw [if_pos rfl]
 have gj : ((ze0 D (n + 1) i).map (AV.int .i64))[j]? = some (.int .i64 (D i j)) := by
  unfold ze0
  rw [y0d, y0d, y1c hj]
  rfl
 refine za7 (zoq env0_ok [(29, [.int .i64 (D i j), .int .i64 x], .int .i64 (zpu (D i j) x))] (fun x hx => by
  obtain rfl := y0f.1 hx
  exact p29) (fun f => Nat.beq f 29) rfl rfl rfl ?_)
 refine zai rfl ?_
 refine zap (id := 3) (sp := 0) (off := 0 + 1) rfl rfl (by show 3 < 4; decide) rfl ?_
 refine za1 rfl ?_
 refine zax rfl rfl (y0y i) (y0x.2 hi) ?_
 rw [ez]
 refine zap (id := 0) (sp := 0) (off := i) rfl rfl (by show 0 < 4; decide) gi ?_
 refine za1 rfl ?_
 refine zai rfl ?_
 refine zap (id := 3) (sp := 0) (off := 0 + 1) rfl rfl (by show 3 < 4; decide) rfl ?_
 refine za1 rfl ?_
 refine zax rfl rfl (y0y i) (y0x.2 hi) ?_
 rw [ez]
 refine zap (id := 0) (sp := 0) (off := i) rfl rfl (by show 0 < 4; decide) gi ?_
 refine za1 rfl ?_
 refine zax rfl rfl (y0y j) (y0x.2 hj) ?_
 rw [ez]
 refine zap (id := 1) (sp := 0) (off := j) rfl rfl (by show 1 < 4; decide) gj ?_
 refine za1 rfl ?_
 refine zat rfl rfl ze9 noC ?_
 refine zax rfl rfl (y0y j) (y0x.2 hj) ?_
 rw [ez]
 refine zbj (id := 1) (sp := 0) (off := j) (cs := (ze0 D (n + 1) i).map (AV.int .i64)) rfl rfl rfl rfl (by rw [y04, zvr]; exact hj) rfl ?_
 rw [zn1]
 generalize zpu (D i j) x = y
 refine onu ?_
 have hoth : ∀ v, v ≠ i → vsI (ze0 D (n + 1) v) = vsI (ze0 (upG D i j y) (n + 1) v) := fun v hv => by rw [zlh D (n + 1) i j v y hv]
 refine zcc [(some (0, 0), (List.range (n + 1)).map fun v => vsI (ze0 (upG D i j y) (n + 1) v)), (some (2, 0), [.int .i64 0, .nils]), (some (3, 0), [.int .i64 (n : Nat), .ms 0 0 1 0 (n + 1) none])] [(1, 0, (ze0 (upG D i j y) (n + 1) i).map (AV.int .i64))] [(8, .mptr 1 0 0), (9, .mptr 2 0 0)] rfl (.cons rfl (zc4 _) .nil)
  (.cons rfl (zq8 fun v hv => ?_) (.cons rfl (.keep rfl) (.cons rfl (.cons (.same rfl) (.cons (.ms rfl) .nil)) .nil))) (.cons rfl (.mptr rfl) (.cons rfl (.mptr rfl) .nil)) ?_
 ·unfold wrow
  by_cases e : v = i
  ·subst e
   rw [if_pos rfl]
   exact .fms0 rfl (zff (upG D v j y) (n + 1) v) (fun x hx => by obtain ⟨z, _, rfl⟩ := y0i.1 hx; rfl) (zhg _)
  ·rw [if_neg e, hoth v e]
   exact .same rfl
 refine zcc [(some (1, 0), [.int .i64 0, .nils]), (some (2, 0), [.int .i64 (n : Nat), .vs ((zca (upG D i j y) (n + 1)).map fun r => ([vsI r] : List AV))])] [(0, 0, (List.range (n + 1)).map fun v => vsI (ze0 (upG D i j y) (n + 1) v))] [(8, .mptr 0 0 0), (9, .mptr 1 0 0)] rfl (.cons rfl (zn2 (upG D i j y) (n + 1) _) .nil)
  (.cons rfl (.keep rfl) (.cons rfl (.cons (.same rfl) (.cons (.fms0 rfl (zge (upG D i j y) (n + 1)) (fun x hx => by obtain ⟨z, _, rfl⟩ := y0i.1 hx; rfl) (mat_flat (upG D i j y) (n + 1))) .nil)) .nil)) (.cons rfl (.mptr rfl) (.cons rfl (.mptr rfl) .nil)) ?_
 refine zsr rfl (zb3 rfl rfl rfl rfl (zci rfl rfl rfl rfl rfl rfl rfl (onu (zau ?_))))
 exact zao ⟨.inr rfl, _, rfl, rfl⟩
def zStep (D : Nat → Nat → Int) (v : Nat) : Nat → Nat → Int := upG D (v + 1) 0 (zpu (D (v + 1) 0) 0)
def dZ (i : Nat) : Nat → Nat → Int := (List.range i).foldl zStep freeB
theorem zte (i : Nat) : dZ (i + 1) = zStep (dZ i) i := by
 unfold dZ
 rw [y2x, y1y]
 rfl
theorem ztd : ∀ i a b : Nat, dZ i a b = if b = 0 ∧ 1 ≤ a ∧ a ≤ i then 0 else freeB a b
 | 0, a, b => by
  rw [if_neg (by omega)]
  rfl
 | i + 1, a, b => by
  have e : dZ i (i + 1) 0 = nnB := by
   rw [ztd i, if_neg (by omega)]
   exact if_neg (y24 i)
  rw [zte]
  unfold zStep
  rw [e, show zpu nnB 0 = 0 by decide]
  unfold upG
  by_cases c : a = i + 1 ∧ b = 0
  ·rw [if_pos c, if_pos ⟨c.2, by omega, by omega⟩]
  ·rw [if_neg c, ztd i a b]
   by_cases d : b = 0 ∧ 1 ≤ a ∧ a ≤ i
   ·rw [if_pos d, if_pos ⟨d.1, d.2.1, by omega⟩]
   ·rw [if_neg d, if_neg (by omega)]
def ztj (D : Nat → Nat → Int) (e : Nat × Nat) : Nat → Nat → Int := upG D (e.2 + 1) (e.1 + 1) (zpu (D (e.2 + 1) (e.1 + 1)) (-1))
def dN (m : Nat) (E : List (Nat × Nat)) : Nat → Nat → Int := E.foldl ztj (dZ m)
theorem ztc {m : Nat} {E : List (Nat × Nat)} {i : Nat} (h : i < E.length) : dN m (E.take (i + 1)) = ztj (dN m (E.take i)) E[i] := by
 unfold dN
 rw [y2b, y07 h, y1y]
 rfl
theorem les_neg {x : Int} (h : x = nnB ∨ x = -1) : zpu x (-1) = -1 := by
 rcases h with rfl | rfl
 ·decide
 ·decide
theorem BndL.snoc {E : List (Nat × Nat)} {m u v : Nat} {D : Nat → Nat → Int} (h : BndL E m D) (hu : u < m) (hv : v < m) (hne : u ≠ v) : BndL (E ++ [(u, v)]) m (ztj D (u, v)) := by
 unfold ztj
 dsimp only
 have hx : zpu (D (v + 1) (u + 1)) (-1) = -1 := les_neg (by
  by_cases hn : D (v + 1) (u + 1) = nnB
  ·exact .inl hn
  rcases h.val (i := v + 1) (j := u + 1) (by omega) (by omega) hn with ⟨x, _⟩ | ⟨_, _, _, x, _⟩ | ⟨_, _, _, _, _, x⟩
  ·omega
  ·omega
  ·exact .inr x)
 rw [hx]
 unfold upG
 refine ⟨fun i hi => ?_, fun w hw => ?_, fun a b hm => ?_, fun i j hi hj hij hj0 hn => ?_⟩
 ·rw [if_neg (by omega)]
  exact h.dia i hi
 ·rw [if_neg (by omega)]
  exact h.zer w hw
 ·by_cases c : b + 1 = v + 1 ∧ a + 1 = u + 1
  ·rw [if_pos c]
  ·rw [if_neg c]
   rcases y0p.1 hm with hm | hm
   ·exact h.neg a b hm
   ·obtain ⟨rfl, rfl⟩ := Prod.mk.inj (y0f.1 hm)
    exact absurd ⟨rfl, rfl⟩ c
 ·rw [if_neg (hn u v (y1b _ (y0f.2 rfl)))]
  exact h.non i j hi hj hij hj0 fun a b hm => hn a b (y0k _ hm)
theorem zer_bnd (m : Nat) : BndL [] m (dZ m) := by
 refine ⟨fun i _ => ?_, fun v hv => ?_, fun _ _ h => absurd h y0h, fun i j _ _ hij hj0 _ => ?_⟩
 ·rw [ztd]
  split
  ·rfl
  ·exact if_pos rfl
 ·rw [ztd, if_pos ⟨rfl, by omega, by omega⟩]
 ·rw [ztd, if_neg (by omega)]
  exact if_neg hij
theorem dN_bnd {E : List (Nat × Nat)} {m : Nat} (hb : ∀ u v, (u, v) ∈ E → u < m ∧ v < m) (hs : ∀ u v, (u, v) ∈ E → u ≠ v) : ∀ i, i ≤ E.length → BndL (E.take i) m (dN m (E.take i))
 | 0, _ => zer_bnd m
 | i + 1, h => by
  have ih := dN_bnd hb hs i (by omega)
  have hi : (E[i].1, E[i].2) ∈ E := y0z (h := by omega)
  have hm := hb _ _ hi
  rw [ztc (by omega), y2b, y07 (by omega)]
  exact ih.snoc hm.1 hm.2 (hs _ _ hi)
theorem dN_all {E : List (Nat × Nat)} {m : Nat} (hb : ∀ u v, (u, v) ∈ E → u < m ∧ v < m) (hs : ∀ u v, (u, v) ∈ E → u ≠ v) : BndL E m (dN m E) := by
 have h := dN_bnd hb hs E.length (y0c _)
 rwa [y1f] at h
theorem tms_at {G : Nat → Nat → Int} {m w : Nat} (h : w < (zwc G m).length) : (zwc G m)[w] = -(G (w + 1) 0) := by
 simp [zwc]
section
variable {E : List (Nat × Nat)} {m : Nat} {D : Nat → Nat → Int} (h : BndL E m D) (hb : ∀ u v, (u, v) ∈ E → u < m ∧ v < m) (hm : m ≤ 12)
include h hb hm
theorem lay_pv {o : List Int} (ho : Lay E m o) : PvO (m + 1) (clK (m + 1) (ofG D (m + 1) (m + 1) 0)) := by
 have _ := hb
 have hN := fun k (hk : k ≤ m + 1) => (h.start ho).all (fun i _ => qL_le ho hm i) k hk
 have cl := fun k a b (hk : k ≤ m + 1) (ha : a < m + 1) (hb : b < m + 1) => zsz (G := ofG D (m + 1) (m + 1) 0) (D := D) (fun _ _ => zv7) k hk a b ha hb
 refine ⟨fun k b hk hb => ?_, fun k a hk ha => ?_, fun k a b hk ha hb => ?_, fun _ _ => rfl⟩
 ·rw [cl k k b (by omega) hk hb]
  exact (zik (cl k k k (by omega) hk hk) (cl k k b (by omega) hk hb) (cl k k b (by omega) hk hb)).trans ((hN k (by omega)).row hk b)
 ·rw [cl k a k (by omega) ha hk]
  exact (zik (cl k a k (by omega) ha hk) (cl k k k (by omega) hk hk) (cl k a k (by omega) ha hk)).trans ((hN k (by omega)).col hk a)
 ·rw [cl k a b (by omega) ha hb]
  by_cases e : fwK D k a b = nnB
  ·exact .inl e
  ·have x := (hN k (by omega)).lo a b ha hb e
   have y := (hN k (by omega)).hi a b ha hb e
   have p := qL_le ho hm a
   have q := qL_le ho hm b
   exact .inr (by omega)
theorem zo9 {l : List Nat} (h0 : 0 < m) (hl : zlq E m m [] = some l) : PF Try.prog 21 [cB (m : Nat) (zca D (m + 1))] (.tup [vsI (zuq E m l), .int .i64 0]) := by
 obtain ⟨ht, hlen, hac⟩ := zfk hl
 have ho := zl3 hb ht (by omega)
 have hbr := zf5 hb
 obtain ⟨o', ho'⟩ : ∃ o', Lay (rvE E) m o' := by
  cases hr : zlq (rvE E) m m [] with
  | some l' =>
   obtain ⟨ht', hlen', _⟩ := zfk hr
   exact ⟨_, zl3 hbr ht' (by omega)⟩
  | none =>
   obtain ⟨w, hw, k, wk⟩ := zw2 hbr hr
   exact absurd ⟨k, wk.rev fun a b e => zem.1 e⟩ (hac w hw)
 obtain ⟨p, d, hp⟩ := h.pot hb ho' h0
 have p51 := negN51 hm h.okL (bf_nil hp (by omega))
 have hpv := lay_pv h hb hm ho
 have hcl := fun w (hw : w < m) => (zsz (G := ofG D (m + 1) (m + 1) 0) (D := D) (fun _ _ => zv7) (m + 1) (y0c _) (w + 1) 0 (by omega) (by omega))
 have hly := fun w (hw : w < m) => h.lay hb ho hm hw
 have r := zwk hm h.okN p51 hpv rfl fun w hw => by
  rw [hcl w hw]
  obtain ⟨a, b⟩ := hly w hw
  have x := ho.low w
  have y := lay_le ho w
  exact ⟨a, by omega, by omega⟩
 have e : zwc (clK (m + 1) (ofG D (m + 1) (m + 1) 0) (m + 1)) m = zuq E m l := by
  refine y2t (by rw [zoo, ho.len]) fun w h1 h2 => ?_
  have hw : w < m := by rw [zoo] at h1; exact h1
  rw [gZ_at h2, tms_at h1, hcl w hw, (hly w hw).2]
  omega
 rwa [e] at r
theorem znn {c : List Nat} (hc : CycP E m c) : PF Try.prog 21 [cB (m : Nat) (zca D (m + 1))] (.tup [.vs [], .int .i64 16]) := by
 have _ := hb
 obtain ⟨q, hq, p51⟩ := negC51 hm h.okL (h.neg_cyc hc)
 exact zrv hm h.okN hq p51
def zjd (c : List Nat) : List Nat := (c.map (· + 1)).reverse
omit h hb hm in
theorem zf8 (c : List Nat) : (zjd c).length = c.length := by
 unfold zjd
 rw [List.length_reverse, y04]
omit h hb hm in
theorem zne {c : List Nat} {i : Nat} (hi : i < c.length) : gN (zjd c) i = gN c (c.length - 1 - i) + 1 := by
 rw [← gN_at (by rw [zf8]; exact hi), ← gN_at (by omega)]
 unfold zjd
 rw [List.getElem_reverse, y2f]
 simp only [y04]
theorem zr5 {c : List Nat} (hc : CycP E m c) : PF Try.prog 25 [cB (m : Nat) (zca D (m + 1)), vsI (iL (zjd c))] (.tup [.bool true, .int .i64 0]) := by
 have _ := hb
 have hp := hc.pos
 have hl := hc.len
 refine verify25 hm h.okN (by rw [zf8]; exact hp) (by rw [zf8]; omega) (fun i hi => ?_) fun i hi => ?_
 ·rw [zf8] at hi
  rw [zne hi]
  have := hc.lt (c.length - 1 - i) (by omega)
  omega
 ·rw [zf8] at hi ⊢
  have hm2 := Nat.mod_lt (i + 1) hp
  rw [zne hi, zne hm2]
  have e := hc.edge (c.length - 1 - (i + 1) % c.length) (by omega)
  refine h.neg _ _ ?_
  have : (c.length - 1 - (i + 1) % c.length + 1) % c.length = c.length - 1 - i := by
   by_cases x : i + 1 = c.length
   ·rw [x, Nat.mod_self, show c.length - 1 - 0 + 1 = c.length by omega, Nat.mod_self]
    omega
   ·rw [y2r (show i + 1 < c.length by omega), y2r (by omega)]
    omega
  rwa [this] at e
end
def gB (s : List Bool) (v : Nat) : Bool := s.getD v false
def mrk (s : List Bool) (D : List Nat) : List Bool := D.foldl (fun s v => s.set v true) s
theorem gB_set {s : List Bool} {v : Nat} (hv : v < s.length) (w : Nat) : gB (s.set v true) w = (gB s w || v == w) := by
 unfold gB
 rw [y0b, y0b, List.getElem?_set]
 by_cases h : v = w
 ·subst h
  rw [if_pos rfl, if_pos hv]
  simp
 ·rw [if_neg h, show (v == w) = false from beq_eq_false_iff_ne.2 h, Bool.or_false]
theorem zoc : ∀ (D : List Nat) (s : List Bool), (mrk s D).length = s.length
 | [], _ => rfl
 | d :: D, s => by
  show (mrk (s.set d true) D).length = _
  rw [zoc D, y1n]
theorem ztu : ∀ (D : List Nat) (s : List Bool), (∀ d ∈ D, d < s.length) → ∀ w, gB (mrk s D) w = true ↔ gB s w = true ∨ w ∈ D
 | [], s, _, w => ⟨fun h => .inl h, fun h => h.elim id fun h => absurd h y0h⟩
 | d :: D, s, hD, w => by
  show gB (mrk (s.set d true) D) w = true ↔ _
  rw [ztu D (s.set d true) (fun x hx => by rw [y1n]; exact hD x (y06 _ hx)), gB_set (hD d (y08 ..)), y14, beq_iff_eq, y0n]
  constructor
  ·rintro ((h | h) | h)
   ·exact .inl h
   ·exact .inr (.inl h.symm)
   ·exact .inr (.inr h)
  ·rintro (h | h | h)
   ·exact .inl (.inl h)
   ·exact .inl (.inr h.symm)
   ·exact .inr h
inductive Pin (E : List (Nat × Nat)) (D : List Nat) (x : Nat) : Nat → Prop
 | refl (h : x ∈ D) : Pin E D x x
 | step {u v : Nat} (p : Pin E D x u) (e : (u, v) ∈ E) (h : v ∈ D) : Pin E D x v
theorem Pin.mono {E : List (Nat × Nat)} {D D' : List Nat} {x y : Nat} (h : ∀ d ∈ D, d ∈ D') (p : Pin E D x y) : Pin E D' x y := by
 induction p with
 | refl hx => exact .refl (h _ hx)
 | step p e hv ih => exact .step ih e (h _ hv)
theorem Pin.fst {E : List (Nat × Nat)} {D : List Nat} {x y : Nat} (p : Pin E D x y) : x ∈ D := by
 induction p with
 | refl hx => exact hx
 | step _ _ _ ih => exact ih
theorem Pin.snd {E : List (Nat × Nat)} {D : List Nat} {x y : Nat} (p : Pin E D x y) : y ∈ D := by
 cases p with
 | refl hx => exact hx
 | step _ _ h => exact h
theorem Pin.trans {E : List (Nat × Nat)} {D : List Nat} {x y z : Nat} (p : Pin E D x y) (q : Pin E D y z) : Pin E D x z := by
 induction q with
 | refl _ => exact p
 | step _ e h ih => exact .step ih e h
theorem Pin.walk {E : List (Nat × Nat)} {D : List Nat} {x y : Nat} (p : Pin E D x y) : ∃ k, Wk E k x y := by
 induction p with
 | refl _ => exact ⟨0, .refl _⟩
 | step _ e _ ih =>
  obtain ⟨k, w⟩ := ih
  exact ⟨k + 1, .step w e⟩
inductive Vis (E : List (Nat × Nat)) (m : Nat) : List Bool → List Nat → List Nat → Prop
 | nil (s : List Bool) : Vis E m s [] []
 | skip {s : List Bool} {l D : List Nat} {x : Nat} (h : Vis E m s l D) (hx : gB (mrk s D) x = true) : Vis E m s (l ++ [x]) D
 | go {s : List Bool} {l D D' : List Nat} {x : Nat} (h : Vis E m s l D) (hx : gB (mrk s D) x = false) (h' : Vis E m ((mrk s D).set x true) (nbr E m x) D') : Vis E m s (l ++ [x]) (D ++ (D' ++ [x]))
structure VP (E : List (Nat × Nat)) (m : Nat) (s : List Bool) (l D : List Nat) : Prop where
 nd : D.Nodup
 new : ∀ d ∈ D, gB s d = false
 lt : ∀ d ∈ D, d < m
 src : ∀ d ∈ D, ∃ y ∈ l, Pin E D y d
 out : ∀ d ∈ D, ∀ w, (d, w) ∈ E → gB s w = true ∨ w ∈ D
 all : ∀ y ∈ l, gB s y = true ∨ y ∈ D
 kos : ∀ x v, Pin E D x v → ∃ y, Pin E D x y ∧ Pin E D y x ∧ D.idxOf x ≤ D.idxOf y ∧ D.idxOf v ≤ D.idxOf y
theorem zdi {A B : List Nat} {x : Nat} (h : x ∈ A) : (A ++ B).idxOf x = A.idxOf x := by rw [List.idxOf_append, if_pos h]
theorem zcx {A B : List Nat} {x : Nat} (h : x ∉ A) : (A ++ B).idxOf x = B.idxOf x + A.length := by rw [List.idxOf_append, if_neg h]
theorem zjn {A : List Nat} {x : Nat} (h : x ∈ A) : A.idxOf x < A.length := List.idxOf_lt_length_iff.2 h
theorem VP.one {E : List (Nat × Nat)} {m : Nat} {s : List Bool} {x : Nat} {D' : List Nat} (hb : ∀ u v, (u, v) ∈ E → u < m ∧ v < m) (hs : s.length = m) (hx : x < m) (h0 : gB s x = false) (h : VP E m (s.set x true) (nbr E m x) D') : VP E m s [x] (D' ++ [x]) := by
 have hmem : ∀ w, w ∈ nbr E m x ↔ (x, w) ∈ E := fun w => zbx fun u v h => (hb u v h).2
 have hg : ∀ w, gB (s.set x true) w = true ↔ gB s w = true ∨ w = x := fun w => by
  rw [gB_set (by rw [hs]; exact hx), y14, beq_iff_eq]
  exact ⟨fun h => h.imp_right Eq.symm, fun h => h.imp_right Eq.symm⟩
 have hxD : x ∉ D' := fun hm => by
  have := h.new x hm
  rw [(hg x).2 (.inr rfl)] at this
  cases this
 have hmx : x ∈ D' ++ [x] := by simp
 have hml : ∀ d ∈ D', d ∈ D' ++ [x] := fun d hd => y0k _ hd
 have hto : ∀ d ∈ D' ++ [x], Pin E (D' ++ [x]) x d := fun d hd => by
  rcases y0p.1 hd with hd | hd
  ·obtain ⟨y, hy, p⟩ := h.src d hd
   exact (Pin.step (.refl hmx) ((hmem y).1 hy) (hml y p.fst)).trans (p.mono hml)
  ·obtain rfl := y0f.1 hd
   exact .refl hmx
 refine ⟨zjw h.nd hxD, fun d hd => ?_, fun d hd => ?_, fun d hd => ⟨x, by simp, hto d hd⟩, fun d hd w hw => ?_, fun y hy => .inr (by rw [y0f.1 hy]; exact hmx), fun a b p => ?_⟩
 ·rcases y0p.1 hd with hd | hd
  ·cases hc : gB s d with
   | false => rfl
   | true =>
    have := h.new d hd
    rw [(hg d).2 (.inl hc)] at this
    cases this
  ·rw [y0f.1 hd]; exact h0
 ·rcases y0p.1 hd with hd | hd
  ·exact h.lt d hd
  ·rw [y0f.1 hd]; exact hx
 ·have hw2 : gB (s.set x true) w = true ∨ w ∈ D' := by
   rcases y0p.1 hd with hd | hd
   ·exact h.out d hd w hw
   ·rw [y0f.1 hd] at hw
    exact h.all w ((hmem w).2 hw)
  rcases hw2 with hw2 | hw2
  ·rcases (hg w).1 hw2 with hw2 | rfl
   ·exact .inl hw2
   ·exact .inr hmx
  ·exact .inr (hml w hw2)
 ·have key : Pin E D' a b ∨ Pin E (D' ++ [x]) a x := by
   induction p with
   | refl ha =>
    rcases y0p.1 ha with ha | ha
    ·exact .inl (.refl ha)
    ·rw [y0f.1 ha]; exact .inr (.refl hmx)
   | step p e hv ih =>
    rcases ih with ih | ih
    ·rcases y0p.1 hv with hv2 | hv2
     ·exact .inl (.step ih e hv2)
     ·rw [y0f.1 hv2] at e
      exact .inr (.step p e hmx)
    ·exact .inr ih
  rcases key with q | q
  ·obtain ⟨y, q1, q2, q3, q4⟩ := h.kos a b q
   refine ⟨y, q1.mono hml, q2.mono hml, ?_, ?_⟩
   ·rw [zdi q.fst, zdi q2.fst]; exact q3
   ·rw [zdi q.snd, zdi q2.fst]; exact q4
  ·refine ⟨x, q, hto a p.fst, ?_, ?_⟩
   ·have := zjn p.fst
    rw [zcx hxD (B := [x])]
    rw [y0l, y11] at this
    omega
   ·have := zjn p.snd
    rw [zcx hxD (B := [x])]
    rw [y0l, y11] at this
    omega
theorem VP.app {E : List (Nat × Nat)} {m : Nat} {s : List Bool} {l l' A B : List Nat} (hs : s.length = m) (h : VP E m s l A) (h' : VP E m (mrk s A) l' B) : VP E m s (l ++ l') (A ++ B) := by
 have hg := ztu A s fun d hd => by rw [hs]; exact h.lt d hd
 have hl : ∀ d ∈ A, d ∈ A ++ B := fun d hd => y0k _ hd
 have hr : ∀ d ∈ B, d ∈ A ++ B := fun d hd => y1b _ hd
 have hdis : ∀ d ∈ B, d ∉ A := fun d hd ha => by
  have := h'.new d hd
  rw [(hg d).2 (.inr ha)] at this
  cases this
 have hnew : ∀ d ∈ A ++ B, gB s d = false := fun d hd => by
  rcases y0p.1 hd with hd | hd
  ·exact h.new d hd
  ·cases hc : gB s d with
   | false => rfl
   | true =>
    have := h'.new d hd
    rw [(hg d).2 (.inl hc)] at this
    cases this
 refine ⟨?_, hnew, fun d hd => ?_, fun d hd => ?_, fun d hd w hw => ?_, fun y hy => ?_, fun a b p => ?_⟩
 ·rw [List.nodup_append]
  exact ⟨h.nd, h'.nd, fun a ha b hb e => hdis b hb (e ▸ ha)⟩
 ·rcases y0p.1 hd with hd | hd
  ·exact h.lt d hd
  ·exact h'.lt d hd
 ·rcases y0p.1 hd with hd | hd
  ·obtain ⟨y, hy, p⟩ := h.src d hd
   exact ⟨y, y0k _ hy, p.mono hl⟩
  ·obtain ⟨y, hy, p⟩ := h'.src d hd
   exact ⟨y, y1b _ hy, p.mono hr⟩
 ·rcases y0p.1 hd with hd | hd
  ·exact (h.out d hd w hw).imp_right (hl w)
  ·rcases h'.out d hd w hw with h2 | h2
   ·exact ((hg w).1 h2).imp_right (hl w)
   ·exact .inr (hr w h2)
 ·rcases y0p.1 hy with hy | hy
  ·exact (h.all y hy).imp_right (hl y)
  ·rcases h'.all y hy with h2 | h2
   ·exact ((hg y).1 h2).imp_right (hl y)
   ·exact .inr (hr y h2)
 ·have inA : a ∈ A → Pin E A a b := fun ha => by
   induction p with
   | refl _ => exact .refl ha
   | @step u v p e hv ih =>
    refine .step ih e ?_
    rcases h.out u ih.snd v e with h2 | h2
    ·rw [hnew v hv] at h2; cases h2
    ·exact h2
  rcases y0p.1 p.fst with ha | ha
  ·have q := inA ha
   obtain ⟨y, q1, q2, q3, q4⟩ := h.kos a b q
   refine ⟨y, q1.mono hl, q2.mono hl, ?_, ?_⟩
   ·rw [zdi q.fst, zdi q2.fst]; exact q3
   ·rw [zdi q.snd, zdi q2.fst]; exact q4
  ·have key : Pin E B a b ∨ b ∈ A := by
    clear inA
    induction p with
    | refl _ => exact .inl (.refl ha)
    | @step u v p e hv ih =>
     rcases y0p.1 hv with hv | hv2
     ·exact .inr hv
     ·rcases ih with ih | ih
      ·exact .inl (.step ih e hv2)
      ·rcases h.out u ih v e with h2 | h2
       ·rw [hnew v hv] at h2; cases h2
       ·exact .inr h2
   rcases key with q | hbA
   ·obtain ⟨y, q1, q2, q3, q4⟩ := h'.kos a b q
    refine ⟨y, q1.mono hr, q2.mono hr, ?_, ?_⟩
    ·rw [zcx (hdis a q.fst), zcx (hdis y q2.fst)]; omega
    ·rw [zcx (hdis b q.snd), zcx (hdis y q2.fst)]; omega
   ·obtain ⟨y, q1, q2, q3, _⟩ := h'.kos a a (.refl ha)
    refine ⟨y, q1.mono hr, q2.mono hr, ?_, ?_⟩
    ·rw [zcx (hdis a ha), zcx (hdis y q2.fst)]; omega
    ·have := zjn hbA
     rw [zdi hbA, zcx (hdis y q2.fst)]; omega
theorem vis_ok {E : List (Nat × Nat)} {m : Nat} (hb : ∀ u v, (u, v) ∈ E → u < m ∧ v < m) {s : List Bool} {l D : List Nat} (h : Vis E m s l D) : s.length = m → (∀ y ∈ l, y < m) → VP E m s l D := by
 induction h with
 | nil s => exact fun _ _ => ⟨List.nodup_nil, fun d h => absurd h y0h, fun d h => absurd h y0h, fun d h => absurd h y0h, fun d h => absurd h y0h, fun d h => absurd h y0h, fun x v p => absurd p.fst y0h⟩
 | @skip s l D x h hx ih =>
  intro hs hl
  have v := ih hs fun y hy => hl y (y0k _ hy)
  have hg := ztu D s fun d hd => by rw [hs]; exact v.lt d hd
  refine ⟨v.nd, v.new, v.lt, fun d hd => ?_, v.out, fun y hy => ?_, v.kos⟩
  ·obtain ⟨y, hy, p⟩ := v.src d hd
   exact ⟨y, y0k _ hy, p⟩
  ·rcases y0p.1 hy with hy | hy
   ·exact v.all y hy
   ·rw [y0f.1 hy]
    exact (hg x).1 hx
 | @go s l D D' x h hx h' ih ih' =>
  intro hs hl
  have v := ih hs fun y hy => hl y (y0k _ hy)
  have hxm := hl x (by simp)
  have v' := ih' (by rw [y1n, zoc, hs]) fun y hy => (hb _ _ ((zbx fun u v h => (hb u v h).2).1 hy)).2
  exact v.app hs (VP.one hb (by rw [zoc, hs]) hxm hx v')
end Go.Proofs.Ytfbeableaihooaa
