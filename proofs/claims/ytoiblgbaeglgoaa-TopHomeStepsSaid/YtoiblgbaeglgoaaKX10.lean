/-
  THE ENDS ALONG A SEQUENCE: sequence.along.; THE ENDS BEFORE A STEP: sequence.Ends.; TopHomeSteps: its walk.; READING A SEQUENCE.
-/
import Derived.Test.YtoiblgbaeglgoaaKX9
namespace Go.Proofs.Ytoiblgbaeglgoaa
open Go Go.Am
def e6 (n : Nat) (l : List Sp) (i : Nat) : List Bool := zgi (List.replicate n false) (l.take i) ++ List.replicate (6 - n) false
theorem zl9 {n : Nat} {l : List Sp} (ok : SeqOk n l) (i : Nat) : (e6 n l i).length = 6 := by
 unfold e6
 rw [y0j, SeqOk.behLen, y0s]
 have := ok.n6
 omega
theorem e6_zero {n : Nat} {l : List Sp} (ok : SeqOk n l) : e6 n l 0 = List.replicate 6 false := by
 unfold e6
 rw [List.take_zero]
 show List.replicate n false ++ _ = _
 rw [y1l]
 congr 1
 have := ok.n6
 omega
theorem e6_succ {n : Nat} {l : List Sp} (ok : SeqOk n l) {i : Nat} (h : i < l.length) : e6 n l (i + 1) = aft (e6 n l i) l[i].l := by
 unfold e6
 rw [zgo h, zrl l[i].l _ ((ok.step h).acts (by rw [SeqOk.behLen]))]
-- pneumatic/sequence.along
def ic115 : IC := .seq (.region [oM 1 (.box (.t 0)),
  oM 2 (.mov (.c (.nilf)))] none)
 (.seq (.region [oM 3 (.mkfn 146 [] [(.t 1)]),
  oT 2 3] none)
 (.ret))
theorem fn115 : env0.fn 115 = some ⟨4, ic115, [.t 2]⟩ := by kernel_rfl
theorem along115 (n : Int) (l : List Sp) : PF Try.prog 115 [.agg (cQ n l)] (.fn 146 [] [.vptr (cQ n l)]) := by
 refine zax env0_ok fn115 [(0, .agg (cQ n l))] (by show 1 ≤ 4; decide) rfl fun w0 N0 => ?_
 unfold ic115
 unfold cQ
 refine zsr rfl (zbq rfl rfl (za1 rfl (onr rfl (zgw rfl rfl (za1 rfl (onu (zaf ?_)))))))
 exact zae ⟨.inr rfl, _, rfl, rfl⟩
theorem view6 {X : List Bool} (h : X.length = 6) (S : AS) : S.view VD (.agg (X.map AV.bool)) = .agg (X.map AV.bool) :=
 match X, h with
 | [_, _, _, _, _, _], _ => rfl
theorem zku : ∀ X : List Bool, (X.map AV.bool).all AV.isCell = true
 | [] => rfl
 | _ :: l => zku l
def b146_0 : IC := .seq (.region [oM 10 (.bin .lss (.t 9) (.t 8))] none)
 (.seq (.cond (.t 10) (.skip)
 (.exit 0))
 (.seq (.block 1 (.seq (.region [oT 11 9,
  oM 12 (.idxs 2 (.t 7) (.t 9)),
  oL 13 2 12,
  oM 5 (.alloc [.nils, .int .i64 0]),
  oT 4 11,
  ⟨none, .store 2 (.t 5) (.t 13), none⟩] none)
 (.seq (.seq (.region [oT 14 0,
  oT 15 4,
  oL 16 6 3,
  oM 17 (.call (.t 14) [(.t 15), (.t 16)]),
  oM 18 (.un .not (.t 17))] none)
 (.cond (.t 18) (.ret)
 (.skip)))
 (.region [oL 19 6 3,
  oL 20 2 5,
  oM 21 (.call (.c (.fn 121 [] [])) [(.t 19), (.t 20)]),
  ⟨none, .store 6 (.t 3) (.t 21), none⟩] none))))
 (.region [oM 22 (.bin .add (.t 9) (.c (.int .i64 1))),
  oT 9 22] none)))
-- pneumatic/sequence.along$1
def ic146 : IC := .seq (.region [oM 3 (.alloc [.bool false, .bool false, .bool false, .bool false, .bool false, .bool false])] none)
 (.seq (.seq (.region [oF 6 1 1,
  oN 7 6,
  oM 8 (.len false (.t 7)),
  oM 9 (.mov (.c (.int .i64 0)))] none)
 (.block 0 (.loop b146_0)))
 (.region [oT 23 0,
  oF 24 1 1,
  oN 25 24,
  oM 26 (.len false (.t 25)),
  oL 27 6 3,
  oM 28 (.call (.t 23) [(.t 26), (.t 27)])] none))
theorem fn146 : env0.fn 146 = some ⟨29, ic146, []⟩ := by kernel_rfl
section
variable {M : Nat → Prop} {I : Unit → HS → Prop} {J : HS → Prop}
def Rnd (M : Nat → Prop) (I : Unit → HS → Prop) (J : HS → Prop) (H : HS) (b : Bool) (v : AV) (H' : HS) : Prop :=
 Keep M H H' ∧ v = .bool b ∧ match b with
  | true => I () H'
  | false => J H'
set_option maxHeartbeats 2000000 in
theorem along146 {w0 : World} {N0 id sp : Nat} (hloc : Local M I) {n : Nat} {l : List Sp} (ok : SeqOk n l) (k : Nat) (hk : k ≤ l.length)
  (hy : ∀ i H, i ≤ l.length → I () H → CT Try.prog w0 N0 (.yield id sp) [.int .i64 (i : Nat), .agg ((e6 n l i).map AV.bool)] H (Rnd M I J H (!decide (i = k)))) (H : HS) (hI : I () H) :
  FT Try.prog w0 N0 146 [.yield id sp, .vptr (cQ n l)] H fun _ H' => Keep M H H' ∧ J H' := by
 have l64 := ok.l64
 have hcl : (cPs l).length = l.length := zct l
 refine zfe env0_ok fn146 [(0, .yield id sp), (1, .vptr (cQ n l))] (by show 2 ≤ 29; decide) rfl ?_
 unfold ic146 cQ
 refine zsr rfl (zay (onu (za7 (zsr rfl (zak rfl rfl rfl (za6 rfl rfl (zbb rfl rfl (za1 rfl (onu ?_)))))))))
 refine zad ?_
 have hlt := hloc.lt () H hI
 have hz : ([.bool false, .bool false, .bool false, .bool false, .bool false, .bool false] : List AV) = (e6 n l 0).map AV.bool := by rw [e6_zero ok]; rfl
 rw [hz]
 refine zbj (fun m S => ∃ i H', m = l.length - i ∧ i ≤ l.length ∧ i ≤ k ∧ I () H' ∧ Keep M H H' ∧ H.next < H'.next ∧ Am.look H.next H'.heap = some (H.clk, .cells ((e6 n l i).map AV.bool)) ∧
   S = st 29 [(0, .yield id sp), (1, .vptr [.int .i64 (n : Nat), .vs (cPs l)]), (3, .mptr H.next H.clk 0), (7, .vs (cPs l)), (8, .int .i64 ((cPs l).length : Nat)), (9, .int .i64 (i : Nat))] H'.heap H'.next H'.clk) l.length
  (zaq (.cons rfl (.cons rfl (.cons rfl (.cons rfl (.cons rfl (.cons rfl .nil))))))) ⟨0, ⟨_, _, _⟩, rfl, y0q _, y0q _, hloc.new hI _ _, Keep.new M H _, y0n _, zav, rfl⟩ ?_
 rintro m S ⟨i, H', rfl, hi, hik, hI', hK', hnx, hlk, rfl⟩
 unfold b146_0
 refine zsr rfl ?_
 refine zao rfl rfl rfl (fun h => ?_) fun h => ?_
 ·have hlt2 : i < l.length := by
   have := of_decide_eq_true h
   rw [hcl] at this
   omega
  have hge := zgp hlt2
  have hst := ok.step hlt2
  have e6l := zl9 ok i
  have q1 := zti l[i] (e6 n l i) (by have := hst.len; omega) e6l (fun s hs => by
   have := hst.acts (by rw [SeqOk.behLen]) s hs
   rw [SeqOk.behLen] at this
   have := ok.n6
   omega)
  rw [← e6_succ ok hlt2] at q1
  generalize l[i] = p at hge q1
  obtain ⟨ps, pw⟩ := p
  have q1 : PF Try.prog 121 [.agg ((e6 n l i).map AV.bool), .agg [.vs (cSs ps), .int .i64 pw]] (.agg ((e6 n l (i + 1)).map AV.bool)) := q1
  have hlm : ((e6 n l i).map AV.bool).length = 6 := by rw [y07, e6l]
  refine onu (za7 (zb2 rfl (zab (za8 (za7 (zad (zsr rfl (za1 rfl (zba rfl rfl (by omega) (by assumption) rfl (zal rfl rfl rfl rfl (zay ?_)))))))))))
  refine za1 rfl ?_
  refine zah rfl rfl rfl rfl zav rfl rfl ?_
  rw [zc3]
  refine onu (za7 (zsr rfl (za1 rfl (za1 rfl ?_))))
  have hN : ¬ M H'.next := fun hm => Nat.lt_irrefl _ (hloc.lt () H' hI' _ hm)
  have hA : ¬ M H.next := fun hm => Nat.lt_irrefl _ (hlt _ hm)
  refine zdm rfl ((zb1 hnx).trans hlk) (y1y hnx) (by rw [y14, hlm]; rfl) (by rw [y14, y1f (by omega)]) ?_
  have hK0 := hK'.trans (Keep.new M H' (H'.clk, .cells [.vs (cSs ps), .int .i64 pw]))
  refine zuk _ rfl rfl (hy i ⟨_, _, _⟩ hi (hloc.new hI' _ _)) (fun _ _ _ _ hm => absurd hm y0f) fun v H3 hF => ?_
  obtain ⟨hK3, rfl, hF⟩ := hF
  have hK4 := hK0.trans hK3
  by_cases hk1 : i = k
  ·subst hk1
   rw [show (!decide (i = i)) = false by simp] at hF ⊢
   refine zes rfl rfl (onu (zb2 rfl (zaf (za2 (zaa (za2 ?_))))))
   refine zaw ?_
   refine zaa (za2 ?_)
   exact zae ⟨.inr rfl, _, rfl, hK4, hF⟩
  ·rw [show (!decide (i = k)) = true by simp [hk1]] at hF ⊢
   refine zes rfl rfl (onu (zb5 rfl (zab (za8 (za5 rfl ?_)))))
   refine zdm rfl ((hK3.look H.next hA (y1y hnx)).trans ((zb1 hnx).trans hlk)) (y0x (y1y hnx) hK3.next) (by rw [y14, hlm]; rfl) (by rw [y14, y1f (by omega)]) ?_
   refine zdm rfl ((hK3.look H'.next hN (y0n _)).trans zav) (y0x (y0n _) hK3.next) rfl rfl ?_
   refine zas rfl (by rw [y1d, view6 e6l]; rfl) q1 (fun h => absurd h (by
    show ¬ (hasM.hasML ((e6 n l i).map AV.bool) || _) = true
    rw [zbl]
    exact Bool.noConfusion)) ?_
   refine zah (vs := (e6 n l (i + 1)).map AV.bool) rfl rfl rfl (by rw [y07, zl9 ok]; rfl) ((hK3.look H.next hA (y1y hnx)).trans ((zb1 hnx).trans hlk)) (by rw [y07, y07, zl9 ok, e6l]; rfl) (zku _) ?_
   refine zai (zb9 (za8 (za5 rfl (zb3 (op := .add) rfl rfl rfl (za1 rfl (zai ?_))))))
   rw [zar i (by omega)]
   have hset : setAt 0 ((e6 n l i).map AV.bool) ((e6 n l (i + 1)).map AV.bool) = (e6 n l (i + 1)).map AV.bool := by
    unfold setAt
    rw [List.take_zero, y29, List.drop_of_length_le (by rw [y07, y07, zl9 ok, zl9 ok]; omega), y0u]
   rw [hset]
   have hKs : Keep M H ⟨zb0 H.next (H.clk, .cells ((e6 n l (i + 1)).map AV.bool)) H3.heap, H3.next, H3.clk⟩ := ⟨hK4.next, hK4.clk, fun j hm hj => by rw [za0, if_neg (by omega)]; exact hK4.look j hm hj⟩
   exact zat (show l.length - (i + 1) < l.length - i by omega) (zaq (.cons rfl (.cons rfl (.cons rfl (.cons rfl (.cons rfl (.cons rfl .nil)))))))
    ⟨i + 1, ⟨zb0 H.next (H.clk, .cells ((e6 n l (i + 1)).map AV.bool)) H3.heap, H3.next, H3.clk⟩, rfl, hlt2, by omega, hloc.of () H3 _ hF (y0c _) (fun j hj => by rw [za0, if_neg (fun e : H.next = j => hA (by rw [e]; exact hj))]), hKs, y0x (y1y hnx) hK3.next, by rw [za0, if_pos rfl], rfl⟩
 ·have hi2 : i = l.length := by
   have := of_decide_eq_false h
   rw [hcl] at this
   omega
  have hik2 : i = k := by omega
  have e6l := zl9 ok i
  have hlm : ((e6 n l i).map AV.bool).length = 6 := by rw [y07, e6l]
  refine onu (za7 (zb5 rfl (zbi (zan ?_))))
  refine zc9 ?_
  refine zbh (za8 (za5 rfl (za1 rfl (zak rfl rfl rfl (za6 rfl rfl (zbb rfl rfl ?_))))))
  refine zdm (m := 6) rfl hlk hnx (by rw [y14, hlm]; rfl) (by rw [y14, y1f (by omega)]) ?_
  have hyi := hy i ⟨H'.heap, H'.next, H'.clk⟩ hi hI'
  rw [show (!decide (i = k)) = false by simp [hik2]] at hyi
  refine zuk _ rfl (by simp only [zi4, zbr]; rw [hcl, ← hi2]; rfl) hyi (fun _ _ _ _ hm => absurd hm y0f) fun v H3 hF => ?_
  obtain ⟨hK3, rfl, hF⟩ := hF
  refine zai ?_
  exact zae ⟨.inl rfl, _, rfl, hK'.trans hK3, hF⟩
end
theorem zms : ∀ E : List Bool, E.map AV.bool = (E.map fun z => ([.bool z] : List AV)).flatten
 | [] => rfl
 | b :: l => by rw [y1d, y1d, y1p, ← zms l]; rfl
theorem zno {S : AS} {d id sp : Nat} {cap : Option Nat} (E R : List Bool) (hl : Am.look id S.heap = some (sp, .cells ((E ++ R).map AV.bool))) : S.view (d + 1) (.ms id sp 1 0 E.length cap) = vsB E := by
 have e : S.elems 1 (.ms id sp 1 0 E.length cap) = some (E.map fun z => ([.bool z] : List AV)) := by
  obtain ⟨n, t, hp, nx, ck, mk⟩ := S
  exact zdb (ys := R.map AV.bool) (cap := cap) (n := n) (nx := nx) (ck := ck) (mk := mk) (l := []) (hp := hp) (by rw [← zms, ← y2h]; exact hl) (y07 ..) (fun x hx => by obtain ⟨s, _, rfl⟩ := y0o.1 hx; rfl)
 simp only [AS.view, e]
 unfold vsB
 congr 1
 rw [y1v]
 apply y1u
 intro s _
 cases d <;> rfl
noncomputable def zmj : Code := match env0.fn 65 with
 | some i => ((zc1 i.ic)[0]?.getD (.skip, .skip)).1
 | none => .skip
noncomputable def zml : Code := match env0.fn 65 with
 | some i => ((zc1 i.ic)[0]?.getD (.skip, .skip)).2
 | none => .skip
def zro : IC := .seq (.region [oT 7 16] none)
 (.region [oM 8 (.alloc [.bool false, .bool false, .bool false, .bool false, .bool false, .bool false]),
  ⟨none, .store 6 (.t 8) (.t 17), none⟩] none)
def ya7 : IC := .block 1 (.seq (.region [oT 18 7,
  oN 19 3,
  oM 20 (.bin .eql (.t 18) (.t 19))] none)
 (.cond (.t 20) (.seq (.region [oF 21 0 2,
  oN 22 21,
  oM 23 (.slarr 6 1 (.t 8) none (some (.t 22))),
  oM 24 (.call (.c (.fn 44 [] [])) [(.t 23)]),
  ⟨none, .store 1 (.t 4) (.t 24), none⟩,
  ⟨none, .store 1 (.t 5) (.c (.int .i64 0)), none⟩] none)
 (.ret))
 (.skip)))
-- pneumatic/sequence.Ends
noncomputable def ic65 : IC := .seq (.region [oM 2 (.box (.t 0)),
  oM 3 (.box (.t 1)),
  oM 4 (.alloc [.nils]),
  oM 5 (.alloc [.int .i64 0])] none)
 (.seq (.seq (.region [oL 9 2 2,
  oM 10 (.call (.c (.fn 72 [] [])) [(.t 9)]),
  oT 6 10] none)
 (.seq (.region [oT 11 6,
  oM 12 (.bin .neq (.t 11) (.c (.int .i64 0)))] none)
 (.cond (.t 12) (.seq (.region [oT 13 6,
  ⟨none, .store 1 (.t 4) (.c (.nils)), none⟩,
  ⟨none, .store 1 (.t 5) (.t 13), none⟩] none)
 (.ret))
 (.skip))))
 (.seq (.seq (.region [oL 14 2 2,
  oM 15 (.call (.c (.fn 115 [] [])) [(.t 14)])] none)
 (.block 0 (.rangeFunc (.t 15) [16, 17] zmj zml zro ya7)))
 (.seq (.region [⟨none, .store 1 (.t 4) (.c (.nils)), none⟩,
  ⟨none, .store 1 (.t 5) (.c (.int .i64 2)), none⟩] none)
 (.ret))))
theorem fn65 : env0.fn 65 = some ⟨25, ic65, [.cell 4 none, .cell 5 none]⟩ := by kernel_rfl
theorem zw5 {S : AS} {a b : Nat} {pa pb va vb : AV} {ra rb : List AV} (h1 : S.get a = some pa) (d1 : S.deref pa = some (va :: ra)) (h2 : S.get b = some pb) (d2 : S.deref pb = some (vb :: rb)) :
  S.res [.cell a none, .cell b none] = some (.tup [va, vb]) := by
 simp [AS.res, AS.resL, zsl, h1, h2, d1, d2]
structure I65 (ltm : List (Nat × AV)) (n k : Nat) (l : List Sp) (_ : Unit) (H : HS) : Prop where
 nx : 6 ≤ H.next
 h5 : Am.look 5 H.heap = some (5, .loop .ready none 25 (zdh ltm) [16, 17] zmj zml (4, 4))
 h4 : Am.look 4 H.heap = some (4, .deferred)
 h3 : Am.look 3 H.heap = some (3, .cells [.int .i64 0])
 h2 : Am.look 2 H.heap = some (2, .cells [.nils])
 h1 : Am.look 1 H.heap = some (1, .cells [.int .i64 (k : Nat)])
 h0 : Am.look 0 H.heap = some (0, .cells (cQ (n : Nat) l))
structure J65 (E : List Bool) (H : HS) : Prop where
 nx : 6 ≤ H.next
 h5 : ∃ tm, Am.look 5 H.heap = some (5, .loop .done (some .ret) 25 tm [16, 17] zmj zml (4, 4))
 h4 : Am.look 4 H.heap = some (4, .deferred)
 h3 : Am.look 3 H.heap = some (3, .cells [.int .i64 0])
 h2 : ∃ q s, 6 ≤ q ∧ q < H.next ∧ Am.look 2 H.heap = some (2, .cells [.ms q s 1 0 E.length none]) ∧ Am.look q H.heap = some (s, .cells (E.map AV.bool))
theorem local65 (ltm : List (Nat × AV)) (n k : Nat) (l : List Sp) : Local (fun i => i < 6) (I65 ltm n k l) :=
 ⟨fun s H h i hi => y0x hi h.nx, fun s H H' h hn hl =>
  ⟨y0t h.nx hn, (hl 5 (by decide)).trans h.h5, (hl 4 (by decide)).trans h.h4, (hl 3 (by decide)).trans h.h3, (hl 2 (by decide)).trans h.h2, (hl 1 (by decide)).trans h.h1, (hl 0 (by decide)).trans h.h0⟩⟩
set_option maxHeartbeats 2000000 in
theorem yield65 {w0 : World} {N0 : Nat} (ltm : List (Nat × AV)) (g2 : zbr (.t 2) ltm = some (.mptr 0 0 0)) (g3 : zbr (.t 3) ltm = some (.mptr 1 1 0)) (g4 : zbr (.t 4) ltm = some (.mptr 2 2 0)) (g5 : zbr (.t 5) ltm = some (.mptr 3 3 0)) {n : Nat} {l : List Sp} (ok : SeqOk n l) (n4 : n ≤ 4) (k : Nat) (hk : k ≤ l.length)
  (ha : Com Try.prog zmj zro) (hb : Com Try.prog zml ya7) (i : Nat) (H : HS) (hi : i ≤ l.length) (h : I65 ltm n k l () H) :
  CT Try.prog w0 N0 (.yield 5 5) [.int .i64 (i : Nat), .agg ((e6 n l i).map AV.bool)] H (Rnd (fun i => i < 6) (I65 ltm n k l) (J65 (zgi (List.replicate n false) (l.take k))) H (!decide (i = k))) := by
 obtain ⟨nx, h5, h4, h3, h2, h1, h0⟩ := h
 have n1 := ok.n1
 have l64 := ok.l64
 have e6l := zl9 ok i
 have hlm : ((e6 n l i).map AV.bool).length = 6 := by rw [y07, e6l]
 have hset : setAt 0 [.bool false, .bool false, .bool false, .bool false, .bool false, .bool false] ((e6 n l i).map AV.bool) = (e6 n l i).map AV.bool := by
  unfold setAt
  rw [List.take_zero, y29, List.drop_of_length_le (by rw [hlm]; exact y0c _), y0u]
 refine zq5 (l0 := (17, .agg ((e6 n l i).map AV.bool)) :: (16, .int .i64 (i : Nat)) :: ltm) h5 ha hb rfl (by decide) rfl ?_
 unfold zro
 refine zsr rfl (za1 rfl (onR rfl (zay ?_)))
 refine zah (vs := (e6 n l i).map AV.bool) rfl rfl rfl (by rw [hlm]; rfl) zav (by rw [hlm]; rfl) (zku _) ?_
 rw [zc3, hset]
 refine zai ?_
 refine zae ⟨rfl, _, _, _, _, rfl, ?_, ?_⟩
 ·rw [za3, if_neg (by omega)]; exact h5
 unfold ya7
 refine zad (zsr rfl (za1 rfl ?_))
 refine zbw (sp := 1) (cs := [.int .i64 (k : Nat)]) g3 (by rw [za0, if_neg (by decide), zb1 (by omega)]; exact h1) (by omega) rfl ?_
 refine zao rfl rfl rfl (fun hg => ?_) fun hg => ?_
 ·have hik : i = k := by
   have := of_decide_eq_true hg
   omega
  subst hik
  rw [show (!decide (i = i)) = false by simp]
  have hE : (zgi (List.replicate n false) (l.take i)).length = n := SeqOk.behLen i
  have hXe : e6 n l i = zgi (List.replicate n false) (l.take i) ++ List.replicate (6 - n) false := rfl
  rw [hXe] at *
  generalize zgi (List.replicate n false) (l.take i) = E at *
  have hv : ∀ S : AS, Am.look H.next S.heap = some (H.clk, .cells ((E ++ List.replicate (6 - n) false).map AV.bool)) → S.view VD (.ms H.next H.clk 1 0 n (some 6)) = vsB E := fun S hS => by
   have := zno (d := VD - 1) (cap := some 6) E _ hS
   rw [hE] at this
   exact this
  have pc := clone44 (e := E) (by omega) (by omega)
  refine onu (zb2 rfl (zsr rfl ?_))
  refine za9 g2 ?_
  refine zbw (sp := 0) (cs := cQ (n : Nat) l) rfl (by rw [za0, if_neg (by decide), zb1 (by omega)]; exact h0) (by omega) rfl ?_
  refine zht (lo := 0) (hh := (n : Nat)) rfl rfl rfl rfl rfl ⟨by omega, by omega, by omega⟩ ?_
  refine o_own rfl (congrArg (fun v => [v]) (hv _ ?_)) pc (zld _) ?_
  ·show Am.look H.next (zb0 5 _ _) = _
   rw [za0, if_neg (by omega)]
   exact zav
  refine zah (sp := 2) (cs := [.nils]) g4 rfl rfl rfl (by rw [zb1 (by omega), za0, if_neg (by decide), zb1 (by omega)]; exact h2) rfl rfl ?_
  refine zah (sp := 3) (cs := [.int .i64 0]) g5 rfl rfl rfl (by rw [za0, if_neg (by decide), zb1 (by omega), za0, if_neg (by decide), zb1 (by omega)]; exact h3) rfl rfl ?_
  refine onu (zaf (zaa ?_))
  refine zae ⟨25, zdh ltm, [16, 17], zmj, zml, (4, 4), ?_, some .ret, rfl, ?_⟩
  ·dsimp only [st]
   rw [za0, if_neg (by decide), za0, if_neg (by decide), zb1 (by omega), za0, if_pos rfl]
  have hp5 : ∀ j, j ≠ 5 → j ≠ 3 → j ≠ 2 → j < H.next → ∀ (u v w : Nat × AObj) (x y : Nat × AObj) (z : Nat × AObj), Am.look j (zb0 5 z (zb0 3 v (zb0 2 w ((H.next + 1, x) :: zb0 5 u ((H.next, y) :: H.heap))))) = Am.look j H.heap := fun j j5 j3 j2 hj u v w x y z => by
   rw [za0, if_neg (Ne.symm j5), za0, if_neg (Ne.symm j3), za0, if_neg (Ne.symm j2), za3, if_neg (by omega), za0, if_neg (Ne.symm j5), za3, if_neg (by omega)]
  refine ⟨⟨y0t (y1a _) (y1a _), y0t (y1a _) (y1a _), fun j hj hlt => ?_⟩, rfl, ?_⟩
  ·exact hp5 j (by omega) (by omega) (by omega) hlt _ _ _ _ _ _
  ·refine ⟨by show 6 ≤ H.next + 1 + 1; omega, ⟨zdh ltm, ?_⟩, ?_, ?_, H.next + 1, H.clk + 1, by omega, y0n _, ?_, ?_⟩
   ·dsimp only [st]
    rw [za0, if_pos rfl]; rfl
   ·exact (hp5 4 (by decide) (by decide) (by decide) (by omega) _ _ _ _ _ _).trans h4
   ·dsimp only [st]
    rw [za0, if_neg (by decide), za0, if_pos rfl]; rfl
   ·dsimp only [st]
    rw [za0, if_neg (by decide), za0, if_neg (by decide), za0, if_pos rfl]; rfl
   ·dsimp only [st]
    rw [za0, if_neg (by omega), za0, if_neg (by omega), za0, if_neg (by omega), za3, if_pos rfl]
 ·have hik : i ≠ k := fun e => by
   subst e
   simp at hg
  rw [show (!decide (i = k)) = true by simp [hik]]
  refine onu (zb5 rfl (zab (zb9 ?_)))
  refine zae ⟨25, zdh ltm, [16, 17], zmj, zml, (4, 4), ?_, none, rfl, ?_⟩
  ·dsimp only [st]
   rw [za0, if_pos rfl]
  have hp5 : ∀ j, j ≠ 5 → j < H.next → ∀ (u z y : Nat × AObj), Am.look j (zb0 5 z (zb0 5 u ((H.next, y) :: H.heap))) = Am.look j H.heap := fun j j5 hj u z y => by
   rw [za0, if_neg (Ne.symm j5), za0, if_neg (Ne.symm j5), za3, if_neg (by omega)]
  refine ⟨⟨y1a _, y1a _, fun j hj hlt => hp5 j (by omega) hlt _ _ _⟩, rfl, ?_⟩
  refine ⟨Nat.le_succ_of_le nx, ?_, (hp5 4 (by decide) (by omega) _ _ _).trans h4, (hp5 3 (by decide) (by omega) _ _ _).trans h3, (hp5 2 (by decide) (by omega) _ _ _).trans h2, (hp5 1 (by decide) (by omega) _ _ _).trans h1, (hp5 0 (by decide) (by omega) _ _ _).trans h0⟩
  dsimp only [st]
  rw [za0, if_pos rfl]; rfl
set_option maxHeartbeats 2000000 in
theorem ends65 {n : Nat} {l : List Sp} (ok : SeqOk n l) (hc : chkP (n : Nat) l = 0) (n4 : n ≤ 4) (k : Nat) (hk : k ≤ l.length) : PF Try.prog 65 [.agg (cQ (n : Nat) l), .int .i64 (k : Nat)] (.tup [vsB (zgi (List.replicate n false) (l.take k)), .int .i64 0]) := by
 have l64 := ok.l64
 have p1 := seq72 (n : Nat) l (by omega)
 rw [hc] at p1
 refine zax env0_ok fn65 [(0, .agg (cQ (n : Nat) l)), (1, .int .i64 (k : Nat))] (by show 2 ≤ 25; decide) rfl fun w0 N0 => ?_
 unfold ic65 cQ
 refine zsr rfl (zbq rfl rfl (zbq rfl rfl (zay (zay (onu (za7 (zsr rfl (zal rfl rfl rfl rfl ?_))))))))
 refine zas rfl rfl p1 noC ?_
 refine za1 rfl (onr rfl (za1 rfl (zcc rfl rfl rfl (onu (zb5 rfl (zab (za8 (za7 (za7 ?_)))))))))
 refine za5 rfl (zal rfl rfl rfl rfl ?_)
 refine zas rfl rfl (along115 (n : Nat) l) noC ?_
 refine onu (zad ?_)
 refine zi1 (.inl rfl) rfl fun ha hb => (along146 (local65 _ n k l) ok k hk (fun i H hi h => yield65 _ rfl rfl rfl rfl ok n4 k hk ha hb i H hi h) ⟨_, _, _⟩ ⟨y0c _, rfl, rfl, rfl, rfl, rfl, rfl⟩).mono fun v H2 hF => ?_
 obtain ⟨hK, nx, ⟨tm, h5⟩, h4, h3, q, s, hq6, hq, h2, hqv⟩ := hF
 refine ⟨_, _, .ret, _, _, _, _, _, _, h5, by simp, rfl, fun z hz => ?_, ?_⟩
 ·obtain rfl := y0i.1 hz
  rw [za4, if_neg (by decide)]; exact h4
 ·refine zaa (za2 ?_)
  generalize zgi (List.replicate n false) (l.take k) = E at *
  refine zae ⟨.inr rfl, .tup [.ms q s 1 0 E.length none, .int .i64 0], zw5 (zd8 4) (zc8 (sp := 2) (cs := [.ms q s 1 0 E.length none]) ?_ ?_) (zd8 5) (zc8 (sp := 3) (cs := [.int .i64 0]) ?_ ?_), ?_⟩
  ·show Am.look 2 (zbo 4 (zbo 5 H2.heap)) = _
   rw [za4, if_neg (by decide), za4, if_neg (by decide)]; exact h2
  ·show 2 < H2.next; omega
  ·show Am.look 3 (zbo 4 (zbo 5 H2.heap)) = _
   rw [za4, if_neg (by decide), za4, if_neg (by decide)]; exact h3
  ·show 3 < H2.next; omega
  ·have := zno (S := ⟨0, .nil, zbo 4 (zbo 5 H2.heap), H2.next, H2.clk, []⟩) (d := VD - 2) (cap := none) (sp := s) (id := q) E [] (by
    show Am.look q (zbo 4 (zbo 5 H2.heap)) = _
    rw [za4, if_neg (by omega), za4, if_neg (by omega), y0u]; exact hqv)
   show AV.tup [_, _] = _
   exact congrArg (fun v => AV.tup [v, .int .i64 0]) this
def b13_0 : IC := .seq (.region [oM 45 (.bin .lss (.t 44) (.t 43))] none)
 (.seq (.cond (.t 45) (.skip)
 (.exit 0))
 (.seq (.block 1 (.seq (.region [oT 46 44,
  oM 47 (.idxs 2 (.t 42) (.t 44)),
  oL 48 2 47,
  oM 12 (.alloc [.nils, .int .i64 0]),
  oT 11 46,
  ⟨none, .store 2 (.t 12) (.t 48), none⟩] none)
 (.seq (.region [oL 50 2 3,
  oT 51 11,
  oM 52 (.call (.c (.fn 65 [] [])) [(.t 50), (.t 51)]),
  oT 49 52,
  oM 53 (.extract (.t 49) 0),
  oM 54 (.extract (.t 49) 1),
  oT 13 53,
  oT 14 54] none)
 (.seq (.seq (.region [oT 55 14,
  oM 56 (.bin .neq (.t 55) (.c (.int .i64 0))),
  oT 57 56,
  ⟨(some 58), .load (some 1) (.t 2), some (57, false)⟩,
  ⟨(some 59), .mov (.t 13), some (57, false)⟩,
  ⟨(some 60), .mov (.t 9), some (57, false)⟩,
  ⟨(some 61), .mov (.t 10), some (57, false)⟩,
  ⟨(some 62), .mov (.t 9), some (57, false)⟩,
  ⟨(some 63), .bin .sub (.t 61) (.t 62), some (57, false)⟩,
  ⟨(some 64), .minmax false [(.t 60), (.t 63)], some (57, false)⟩,
  ⟨(some 65), .call (.c (.fn 66 [] [])) [(.t 58), (.t 59), (.t 64)], some (57, false)⟩,
  ⟨(some 66), .un .not (.t 65), some (57, false)⟩,
  oM 67 (.pick (.t 57) (.c (.bool true)) (.t 66))] none)
 (.cond (.t 67) (.seq (.region [oM 4 (.mov (.c (.bool false)))] none)
 (.ret))
 (.skip)))
 (.region [oT 68 9,
  oF 69 0 12,
  oN 70 69,
  oM 71 (.len false (.t 70)),
  oM 72 (.bin .add (.t 68) (.t 71)),
  oT 9 72] none)))))
 (.region [oM 73 (.bin .add (.t 44) (.c (.int .i64 1))),
  oT 44 73] none)))
-- pneumatic/pneumatictop.TopHomeSteps
def ic13 : IC := .seq (.region [oM 2 (.box (.t 0)),
  oM 3 (.box (.t 1)),
  oM 4 (.mov (.c (.bool false)))] none)
 (.seq (.seq (.region [oL 15 1 2,
  oL 16 2 3,
  oM 17 (.call (.c (.fn 62 [] [])) [(.t 15), (.t 16)]),
  oM 18 (.un .not (.t 17))] none)
 (.cond (.t 18) (.seq (.region [oM 19 (.call (.c (.fn 63 [] [])) []),
  oT 4 19] none)
 (.ret))
 (.skip)))
 (.seq (.region [oL 21 1 2,
  oL 22 2 3,
  oM 23 (.call (.c (.fn 18 [] [])) [(.t 21), (.t 22)]),
  oT 20 23,
  oM 24 (.extract (.t 20) 0),
  oM 25 (.extract (.t 20) 1),
  oM 26 (.extract (.t 20) 2),
  oM 27 (.extract (.t 20) 3),
  oT 5 24,
  oT 6 25,
  oT 7 26,
  oT 8 27] none)
 (.seq (.seq (.region [oT 28 8,
  oM 29 (.bin .neq (.t 28) (.c (.int .i64 0))),
  oT 30 29,
  ⟨(some 31), .mov (.t 7), some (30, false)⟩,
  oM 32 (.pick (.t 30) (.c (.bool true)) (.t 31))] none)
 (.cond (.t 32) (.seq (.region [oT 33 8,
  oM 34 (.bin .eql (.t 33) (.c (.int .i64 0))),
  oT 35 34,
  ⟨(some 36), .call (.c (.fn 63 [] [])) [], some (35, true)⟩,
  oM 37 (.pick (.t 35) (.t 36) (.c (.bool false))),
  oT 4 37] none)
 (.ret))
 (.skip)))
 (.seq (.region [oL 38 2 3,
  oM 39 (.call (.c (.fn 64 [] [])) [(.t 38)]),
  oM 40 (.len false (.t 39)),
  oM 9 (.mov (.c (.int .i64 0))),
  oT 10 40] none)
 (.seq (.seq (.region [oF 41 1 3,
  oN 42 41,
  oM 43 (.len false (.t 42)),
  oM 44 (.mov (.c (.int .i64 0)))] none)
 (.block 0 (.loop b13_0)))
 (.seq (.region [oM 74 (.call (.c (.fn 63 [] [])) []),
  oT 4 74] none)
 (.ret)))))))
theorem fn13 : env0.fn 13 = some ⟨75, ic13, [.t 4]⟩ := by kernel_rfl
theorem zs6 {f : List Ex} {n : Int} {l : List Sp} (h : zh9 f n l = true) : l.length ≤ 8 ∧ zq4 n l = 0 ∧ n ≤ 4 ∧ f.length ≤ 8 ∧ zc0 f n = 0 := by
 unfold zh9 znh at h
 simp only [y0g, decide_eq_true_eq, beq_iff_eq] at h
 obtain ⟨⟨h1, h2, h3⟩, h4, h5, h6, h7⟩ := h
 exact ⟨by omega, h3, h4, by omega, h7⟩
theorem mm_min (a b : Int) : (if false = true then (if b > a then b else a) else (if b < a then b else a)) = min a b := by
 rw [if_neg Bool.false_ne_true]
 split <;> omega
theorem spC_ne {p : Sp} (h : spC p = 0) : p.l.length ≠ 0 := fun e => by
 unfold spC at h
 simp [e] at h
set_option maxHeartbeats 4000000 in
theorem law13 (f : List Ex) (hlen : f.length < 9223372036854775808) (hsl : ∀ y ∈ f, Slim y) (n : Int) (l : List Sp) (hl : l.length < 9223372036854775808) : PF Try.prog 13 [.agg [.vs (cXs f)], .agg (cQ n l)] (.bool true) := by
 have hcl : (cPs l).length = l.length := zct l
 have q1 : PF Try.prog 62 [.agg [.vs (cXs f)], .agg [.int .i64 n, .vs (cPs l)]] (.bool (zh9 f n l)) := zz0 f hlen hsl n l hl
 refine zax env0_ok fn13 [(0, .agg [.vs (cXs f)]), (1, .agg [.int .i64 n, .vs (cPs l)])] (by show 2 ≤ 75; decide) rfl fun w0 N0 => ?_
 unfold ic13
 refine zsr rfl (zbq rfl rfl (zbq rfl rfl (za1 rfl (onu (za7 (zsr rfl (zal rfl rfl rfl rfl (zal rfl rfl rfl rfl ?_))))))))
 refine zas rfl rfl q1 noC ?_
 cases h1 : zh9 f n l with
 | false =>
  refine zes rfl rfl (onu (zb2 rfl (zsr rfl ?_)))
  refine zas rfl rfl zs7 noC ?_
  refine za1 rfl (onu (zaf (za2 ?_)))
  exact zae ⟨.inr rfl, _, rfl, rfl⟩
 | true =>
  obtain ⟨l8, hc, n4, f8, hg⟩ := zs6 h1
  have p1 := zts f hsl n l (by omega) fun _ => n4
  obtain ⟨m, rfl, ok⟩ := chk_ok hc
  have m4 : m ≤ 4 := by omega
  have m1 := ok.n1
  unfold dgV dgC at p1
  rw [if_pos hc, hg] at p1
  unfold dgT at p1
  rw [if_pos hc, if_pos hg, y0y] at p1
  refine zes rfl rfl (onu (zb5 rfl (zab (za8 (zsr rfl (zal rfl rfl rfl rfl (zal rfl rfl rfl rfl ?_)))))))
  refine zas rfl rfl p1 noC ?_
  repeat (first | refine za7 ?_ | refine za5 rfl ?_ | refine zai ?_ | refine za8 ?_ | refine zbc rfl ?_ | refine za1 rfl ?_ | refine zap rfl rfl ?_ | refine zc7 rfl rfl ?_ | refine zcc rfl rfl rfl ?_)
  cases hs : (dgS f 0 (List.replicate m false) l).2.2 with
  | true =>
   refine zb2 rfl (zsr rfl (za1 rfl (zc6 rfl rfl rfl (za1 rfl (zbc rfl ?_)))))
   refine zas rfl rfl zs7 noC ?_
   refine zau rfl rfl (za1 rfl (onu (zaf (za2 ?_))))
   exact zae ⟨.inr rfl, _, rfl, rfl⟩
  | false =>
   have hst : ∀ p ∈ l, p.l.length ≠ 0 ∧ p.l.length ≤ 6 := fun p hp => by
    obtain ⟨i, hi, rfl⟩ := List.getElem_of_mem hp
    have := ok.step hi
    exact ⟨spC_ne this.sp, this.len⟩
   have p2 := first64 (m : Nat) l (by omega) hst
   have hw : ((cSs (zi0 l)).length : Int) = zib l := by rw [zbe, zv8]
   refine zb5 rfl (zab (za8 (zsr rfl (zal rfl rfl rfl rfl ?_))))
   refine zas rfl rfl p2 noC ?_
   refine zbb rfl rfl (za1 rfl (za1 rfl (onu (za7 (zsr rfl (za9 rfl (za6 rfl rfl (zbb rfl rfl (za1 rfl (onu ?_))))))))))
   refine zad ?_
   refine zbj (fun mm S => ∃ i, mm = l.length - i ∧ i ≤ l.length ∧
     S = st 75 [(2, .vptr [.vs (cXs f)]), (3, .vptr [.int .i64 (m : Nat), .vs (cPs l)]), (9, .int .i64 (zib (l.take i) : Nat)), (10, .int .i64 (zib l : Nat)), (42, .vs (cPs l)), (43, .int .i64 ((cPs l).length : Nat)), (44, .int .i64 (i : Nat))] [] 0 1) l.length
    (zbd [] [(0, 0, [.vs (cXs f)]), (1, 1, [.int .i64 (m : Nat), .vs (cPs l)])] rfl rfl rfl (.cons rfl rfl (.cons rfl rfl .nil)) .nil (l' := [(2, .vptr [.vs (cXs f)]), (3, .vptr [.int .i64 (m : Nat), .vs (cPs l)]), (9, .int .i64 (zib (l.take 0) : Nat)), (10, .int .i64 (zib l : Nat)), (42, .vs (cPs l)), (43, .int .i64 ((cPs l).length : Nat)), (44, .int .i64 ((0 : Nat) : Int))]) (.cons rfl (.fptr rfl rfl) (.cons rfl (.fptr rfl rfl) (.cons rfl (.same rfl) (.cons (congrArg (fun z => some (AV.int .i64 z)) hw) (.same rfl) (.cons rfl (.same rfl) (.cons rfl (.same rfl) (.cons rfl (.same rfl) .nil)))))))) ⟨0, rfl, y0q _, rfl⟩ ?_
   rintro mm S ⟨i, rfl, hi, rfl⟩
   unfold b13_0
   refine zsr rfl ?_
   refine zao rfl rfl rfl (fun h => ?_) fun h => ?_
   ·have hlt : i < l.length := by
     have := of_decide_eq_true h
     rw [hcl] at this
     omega
    have hge := zgp hlt
    have p3 := ends65 ok (by rw [chk_eq]; exact hc) m4 i (by omega)
    have hE : (zgi (List.replicate m false) (l.take i)).length = m := SeqOk.behLen i
    have ld := zov ok m4 hs i (by omega)
    have lr := zu9 ok m4 hs (l.length - i) i (by omega)
    have hfr := zr6 ok hs (k := i) (by omega)
    have ct := zl5 hlt
    have cr : zib l ≤ 6 * l.length := zy6 fun p hp => (hst p hp).2
    have p4 := level66 f hsl (zgi (List.replicate m false) (l.take i)) (by omega) (by omega) (by rw [hE]; exact hg) hfr ld.1 (min (zib (l.take i) : Nat) ((zib l : Nat) - (zib (l.take i) : Nat) : Int)) (by omega)
    have hp6 := (hst l[i] (y0r hlt)).2
    generalize zgi (List.replicate m false) (l.take i) = E at p3 p4 hE ld lr
    generalize l[i] = p at hge ct hp6
    obtain ⟨ps, pw⟩ := p
    have hp6 : ps.length ≤ 6 := hp6
    have hge : (cPs l)[((i : Nat) : Int).toNat]? = some [.vs (cSs ps), .int .i64 pw] := hge
    repeat (first | refine za7 ?_ | refine za5 rfl ?_ | refine zai ?_ | refine za8 ?_ | refine zad ?_ | refine zab ?_ | refine zb2 rfl ?_ | refine za1 rfl ?_ | refine zal rfl rfl rfl rfl ?_ | refine zah rfl rfl rfl rfl rfl rfl rfl ?_ | refine zay ?_ | refine zba rfl rfl (by omega) (by assumption) rfl ?_)
    refine zas rfl rfl p3 noC ?_
    repeat (first | refine za7 ?_ | refine za5 rfl ?_ | refine zai ?_ | refine za8 ?_ | refine zbc rfl ?_ | refine za1 rfl ?_ | refine zal rfl rfl rfl rfl ?_ | refine zqs rfl rfl rfl ?_ | refine zc7 rfl rfl ?_ | refine zb3 (op := .sub) rfl rfl rfl ?_ | refine zcc rfl rfl rfl ?_)
    have hwr : IntKind.wrap .i64 ((zib l : Nat) - (zib (l.take i) : Nat) : Int) = (zib l : Nat) - (zib (l.take i) : Nat) := wrap_small _ (by omega) (by omega)
    rw [hwr]
    rw [mm_min]
    refine zas rfl rfl p4 noC ?_
    refine zbc rfl (zes rfl rfl (zap rfl rfl (onu (zb5 rfl (zab (za8 (za5 rfl (za1 rfl (za9 rfl (za6 rfl rfl (zbb rfl rfl (zb3 (op := .add) rfl rfl rfl ?_))))))))))))
    refine za1 rfl (zai (zb9 (za8 (za5 rfl (zb3 (op := .add) rfl rfl rfl (za1 rfl (zai ?_)))))))
    have hct : IntKind.wrap .i64 ((zib (l.take i) : Nat) + ((cSs ps).length : Nat) : Int) = (zib (l.take (i + 1)) : Nat) := by
     have hps : (cSs ps).length = ps.length := zbe ps
     have ct : zib (l.take (i + 1)) = zib (l.take i) + ps.length := ct
     rw [hps, wrap_small _ (by omega) (by omega), ct]
     omega
    exact zat (show l.length - (i + 1) < l.length - i by omega) (zbd [] [] rfl rfl rfl .nil .nil (l' := [(2, .vptr [.vs (cXs f)]), (3, .vptr [.int .i64 (m : Nat), .vs (cPs l)]), (9, .int .i64 (zib (l.take (i + 1)) : Nat)), (10, .int .i64 (zib l : Nat)), (42, .vs (cPs l)), (43, .int .i64 ((cPs l).length : Nat)), (44, .int .i64 ((i + 1 : Nat) : Int))]) (.cons rfl (.same rfl) (.cons rfl (.same rfl) (.cons (congrArg (fun z => some (AV.int .i64 z)) hct) (.same rfl) (.cons rfl (.same rfl) (.cons rfl (.same rfl) (.cons rfl (.same rfl) (.cons (congrArg (fun z => some (AV.int .i64 z)) (zar i (by omega))) (.same rfl) .nil)))))))) ⟨i + 1, rfl, hlt, rfl⟩
   ·refine onu (za7 (zb5 rfl (zbi (zan ?_))))
    refine zc9 ?_
    refine zbh (za8 (zsr rfl ?_))
    refine zas rfl rfl zs7 noC ?_
    refine za1 rfl (onu (zaf ?_))
    exact zae ⟨.inr rfl, _, rfl, rfl⟩
open Go Go.Am Go.ChangeShapes Go.WideShapes Go.ChangeAt Go.RowKit Go.Deep
section
variable {H : Type} {enc : TypeId × Value → H} {w : World} {base : Nat} {spare : Nat → Bool} {held : Bool}
def skQ (d : DataW H) : Sk := ⟨intD ((zcm d).headD .nil), boolD ((zcm d).tail.headD .nil)⟩
def spQ (d : DataW H) : Sp := ⟨(zdr ((zcm d).headD .nil)).map skQ, intD ((zcm d).tail.headD .nil)⟩
theorem rqN : Rd enc Try.prog w base spare held 3 (zm5 .i64) := ya9 Try.underlying3 (by kernel_rfl)
theorem rqO : Rd enc Try.prog w base spare held 4 zm8 := rd_bool Try.underlying4 (by kernel_rfl)
theorem rqK : Rd enc Try.prog w base spare held 71 (zc5 [zm5 .i64, zm8]) := by
 refine ziw Try.underlying71 rfl (by kernel_rfl) fun i f g e1 e2 => ?_
 match i, e1, e2 with
 | 0, e1, e2 => injection e1 with e1; injection e2 with e2; subst e1 e2; exact rqN
 | 1, e1, e2 => injection e1 with e1; injection e2 with e2; subst e1 e2; exact rqO
 | i + 2, e1, e2 => simp at e1
theorem rqS : Rd enc Try.prog w base spare held 45 (ze9 (zc5 [zm5 .i64, zm8])) :=
 zpc Try.underlying45 (by kernel_rfl) (by rw [show Try.prog.cellsOf 71 = 2 from by kernel_rfl]; decide) rqK
theorem rqP : Rd enc Try.prog w base spare held 47 (zc5 [ze9 (zc5 [zm5 .i64, zm8]), zm5 .i64]) := by
 refine ziw Try.underlying47 rfl (by kernel_rfl) fun i f g e1 e2 => ?_
 match i, e1, e2 with
 | 0, e1, e2 => injection e1 with e1; injection e2 with e2; subst e1 e2; exact rqS
 | 1, e1, e2 => injection e1 with e1; injection e2 with e2; subst e1 e2; exact rqN
 | i + 2, e1, e2 => simp at e1
theorem rqL : Rd enc Try.prog w base spare held 25 (ze9 (zc5 [ze9 (zc5 [zm5 .i64, zm8]), zm5 .i64])) :=
 zpc Try.underlying25 (by kernel_rfl) (by rw [show Try.prog.cellsOf 47 = 2 from by kernel_rfl]; decide) rqP
theorem rqQ : Rd enc Try.prog w base spare held 27 (zc5 [zm5 .i64, ze9 (zc5 [ze9 (zc5 [zm5 .i64, zm8]), zm5 .i64])]) := by
 refine ziw Try.underlying27 rfl (by kernel_rfl) fun i f g e1 e2 => ?_
 match i, e1, e2 with
 | 0, e1, e2 => injection e1 with e1; injection e2 with e2; subst e1 e2; exact rqN
 | 1, e1, e2 => injection e1 with e1; injection e2 with e2; subst e1 e2; exact rqL
 | i + 2, e1, e2 => simp at e1
theorem cP_spQ (d : DataW H) : cP (spQ d) = zc5 [ze9 (zc5 [zm5 .i64, zm8]), zm5 .i64] d := by
 show [AV.vs (((zdr _).map skQ).map cS), _] = _
 rw [y1v]
 rfl
theorem cPs_spQ (l : List (DataW H)) : cPs (l.map spQ) = l.map fun d => zc5 [ze9 (zc5 [zm5 .i64, zm8]), zm5 .i64] d := by
 unfold cPs
 rw [y1v]
 exact y1u fun d _ => cP_spQ d
theorem lenQ {n : Nat} {cs : List Value} {d : DataW H} {p : List MemPlace} (h : DataW.trod enc Try.prog w base spare held n 27 cs = some (d, p)) :
  (zdr ((zcm d).tail.headD .nil)).length < 9223372036854775808 := by
 obtain ⟨xs, n', _, hx, hlen, hxl, hall⟩ := DataW.trod_struct Try.underlying27 h
 simp only [y0a] at hx
 obtain ⟨rfl, rfl⟩ := hx
 obtain ⟨x0, x1, rfl⟩ : ∃ a b, xs = [a, b] := by
  match xs, hxl with
  | [a, b], _ => exact ⟨a, b, rfl⟩
 have h2 := hall 1 _ rfl
 have h2' : _ = some x1 := h2
 show (zdr x1.1).length < _
 rcases Deep.open_slice Try.underlying25 h2' with ⟨_, hx⟩ | ⟨a, len, cap, m, n2, D, Pl, _, hb, hle, hm, hmm, hx, hel⟩
 ·subst hx
  show 0 < _; decide
 ·subst hx
  have hlm : len ≤ m := by rw [hmm]; split <;> omega
  show ((List.range len).map D).length < _
  rw [y07, y1x]
  have : maxLen = 9223372036854775807 := rfl
  omega
end
end Go.Proofs.Ytoiblgbaeglgoaa
